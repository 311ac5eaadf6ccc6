/- Texts of this session, one behind the other, for the statement OutlineLines: what its functions compute, plain facts, and (last) its row. No condition besides those stated. -/
import Derived.Test.YtbmklpcheopgoaaMLines1
import Derived.Test.YtbmklpcheopgoaaMLines3
set_option linter.unusedVariables false
set_option linter.unusedSimpArgs false
namespace Go.Proofs.Ytbmklpcheopgoaa.H
open Go.RowKit Go.Proofs.YtbmklpcheopgoaaW.PrintWords Go.Proofs.YtbmklpcheopgoaaW.PrintLast Go.Proofs.YtbmklpcheopgoaaW.PrintMore
attribute [local go_sem] max2_int min2_int max_two min_two max_three min_three max_four min_four   -- for this text's walks alone
set_option linter.unusedVariables false
set_option linter.unusedSimpArgs false

attribute [local go_sem high] eqA33
/-! ### fleuronref03_Cuts: function 42 -/
def fleuronref03_Cuts.l0 : Nat → List Int → Int → List (S64) → Int → Int → Option ((List (S64)))
 | 0, _, _, _, _, _ => none
 | k + 1, x0, x1, x5, x6, x7 => if x7 < (x0.length : Int) then (if 0 ≤ x7 then (if (rd x0 x7) ≤ x6 then (some x5) else (if (rd x0 x7) ≥ x1 then (some x5) else (if x5.length < 8796093022208 then (fleuronref03_Cuts.l0 k x0 x1 (x5 ++ [(⟨wrap64 (x6 + 1), rd x0 x7⟩ : S64)]) (rd x0 x7) (wrap64 (x7 + 1))) else (none)))) else (none)) else (some x5)
def fleuronref03_Cuts.f (k : Nat) (l0 : List Int) (a1 : Int) : Option ((List (S64))) := fleuronref03_Cuts.l0 k l0 a1 (([] : List (S64))) (-1) 0
theorem fleuronref03_Cuts.mono_l : ∀ k, (∀ y0 y1 y2 y3 y4, LeO (fleuronref03_Cuts.l0 k y0 y1 y2 y3 y4) (fleuronref03_Cuts.l0 (k + 1) y0 y1 y2 y3 y4))
 | 0 => fun _ _ _ _ _ r h => by simp [fleuronref03_Cuts.l0] at h
 | k + 1 => by
  have ih0 := fleuronref03_Cuts.mono_l k
  ·
   intro y0 y1 y2 y3 y4
   unfold fleuronref03_Cuts.l0
   repeat' first
   | (with_reducible exact ih0 _ _ _ _ _)
   | (with_reducible exact LeO.refl _)
   | (with_reducible exact LeO.none _)
   | (with_reducible refine LeO.ite ?_ ?_)
   | (with_reducible refine LeO.bind ?_ (fun _ => ?_))
   | exact ih0 _ _ _ _ _
   | exact LeO.none _
   | refine LeO.ite ?_ ?_
   | refine LeO.bind ?_ (fun _ => ?_)
theorem fleuronref03_Cuts.mono : ∀ a0 a1 k, LeO (fleuronref03_Cuts.f k a0 a1) (fleuronref03_Cuts.f (k + 1) a0 a1) := by
 intro a0 a1 k
 have ih0 := fleuronref03_Cuts.mono_l k
 unfold fleuronref03_Cuts.f
 repeat' first
   | (with_reducible exact ih0 _ _ _ _ _)
   | (with_reducible exact LeO.refl _)
   | (with_reducible exact LeO.none _)
   | (with_reducible refine LeO.ite ?_ ?_)
   | (with_reducible refine LeO.bind ?_ (fun _ => ?_))
   | exact ih0 _ _ _ _ _
   | exact LeO.none _
   | refine LeO.ite ?_ ?_
   | refine LeO.bind ?_ (fun _ => ?_)
set_option maxHeartbeats 8000000 in
set_option maxRecDepth 100000 in
theorem fleuronref03_Cuts.calls (k : Nat) (A0 : Option Addr) (c0 : Nat) (l0 : List Int) (a1 : Int) (r : List (S64)) (w : World) (hr0 : Kd.C (Kd.int .i64) w A0 l0.length l0) (hc0 : l0.length ≤ c0) (h : fleuronref03_Cuts.f k l0 a1 = some r) :
  Calls Try.prog 42 #[.slice A0 l0.length c0, .int .i64 a1] w fun e w' => ∃ v0_ : Value, e = .returned (v0_) ∧ Kd.R k64 64 w' w.heap.size (fun _ => True) v0_ r ∧ Below w.heap.size w w' := by
 have hu64 := Try.underlying64
 have HR0 := aM hr0
 have HC0 := aM hc0
 clear hr0 hc0
 have HB := aM (Below.refl w.heap.size w)
 have H : (fleuronref03_Cuts.l0 k l0 a1 (([] : List (S64))) (-1) 0) = some r := h
 clear h
 obtain ⟨y102, hy102⟩ : ∃ y_ : List (S64), y_ = (([] : List (S64))) := ⟨_, rfl⟩
 replace H : (fleuronref03_Cuts.l0 k l0 a1 y102 (-1) 0) = some r := by first | (rw [hy102]; with_reducible exact H) | (have H2_ := (Option.bind_some _ _).symm.trans H; rw [hy102]; with_reducible exact H2_) | (have H2_ := (Option.bind_some _ _).symm.trans H; with_reducible exact H2_) | with_reducible exact H | (rw [hy102]; exact H) | exact H
 have Ny102 := aM hy102
 clear hy102
 have H' := aM H
 clear H
 go_enter Try.func42, Try.ntmps42
 go_wp2_with (first | ((with_reducible refine gate_dst (N := 8) rfl ?_); refine Kd.R_lit k64 _ 64 ?hg (N := 8) ?hd (xs := ([] : List (S64))) (inner := []) (ok := fun _ => True) (okp := fun _ => True) ?hr ?hp (fun _ hk => hk) trivial (Below.refl _ _) (Nat.le_refl _) (by simp) ?_; (case hd => rfl); (case hg => rfl); (case hr => first | (go_simp; done) | (go_simp; rfl)); (case hp => exact (Reps.none _ _)); intro v103 w3 ho4 hb hg_ hnew_; clear hg_ hnew_; (first | rw [← Ny102.out] at ho4 | (simp only [Int.reduceToNat] at ho4; rw [← Ny102.out] at ho4)); have n0_ := aM (Kd.R_lower ho4 (below_size (by repeat (first | (with_reducible first | exact HB.out | apply bA | apply bN | apply bD) | exact HB.out)))); have n1_ := aM (below_step (by repeat (first | (with_reducible first | exact HB.out | apply bA | apply bN | apply bD) | exact HB.out)) hb); clear HB; have HO104 := n0_; have HB := n1_; clear n0_ n1_; clear hb ho4))
 go_loopg [5, 6, 7] k (fun kq v5 v6 v7 w' => ∃ (x5_1 : List (S64)) (x6_1 : Int) (x7_1 : Int), v6 = .int .i64 x6_1 ∧ v7 = .int .i64 x7_1 ∧ Aside0 (fleuronref03_Cuts.l0 kq l0 a1 x5_1 x6_1 x7_1 = some r) ∧ Aside0 (kq ≤ k) ∧ Aside0 (Kd.R k64 64 w' w.heap.size (fun _ => True) v5 x5_1) ∧ Aside0 (Below w.heap.size w w'))
 case atStart => exact ⟨(y102), ((-1)), (0), (by first | rfl | (simp; done) | (simp [*]; done)), (by first | rfl | (simp; done) | (simp [*]; done)), H', ⟨Nat.le_refl _⟩, ⟨by (with_reducible repeat (first | apply Kd.R_alloc | apply Kd.R_drewN | apply Kd.R_drew)); exact HO104.out⟩, ⟨by repeat (first | (with_reducible first | exact HB.out | apply bA | apply bN | apply bD) | exact HB.out)⟩⟩
 case round =>
  clear H'
  try clear p2
  try clear c4
  obtain ⟨x5_1, x6_1, x7_1, rfl, rfl, HA, HK1, HO_5, HB⟩ := hrel
  cases gk with
  | zero => exact absurd HA.out (by simp [fleuronref03_Cuts.l0])
  | succ k1 =>
   have H := HA.out
   clear HA
   simp only [fleuronref03_Cuts.l0] at H
   by_cases c5 : x7_1 < (l0.length : Int)
   ·
    rw [if_pos c5] at H
    have c5b0 : decide (x7_1 < (l0.length : Int)) = true := decide_eq_true c5
    clear c5
    by_cases c6 : 0 ≤ x7_1
    ·
     rw [if_pos c6] at H
     have c6b0 : decide (0 ≤ x7_1) = true := decide_eq_true c6
     clear c6
     by_cases c7 : (rd l0 x7_1) ≤ x6_1
     ·
      rw [if_pos c7] at H
      have c7b0 : decide ((rd l0 x7_1) ≤ x6_1) = true := decide_eq_true c7
      clear c7
      obtain rfl := Option.some.inj H
      have p105 : 0 ≤ (x7_1 : Int) := of_decide_eq_true (by assumption)
      have q105 : x7_1 < (l0.length : Int) := of_decide_eq_true (by assumption)
      obtain ⟨ad105, e105, hx105_0⟩ := Kd.at_int HR0.out x7_1 p105 q105
      cases e105
      replace hx105_0 := (HB.out.cell (World.block_lt_of_cell? w _ hx105_0)).trans hx105_0
      replace p105 := eq_true p105
      replace q105 := eq_true q105
      go_wp2
      go_ret
      exact ⟨_, by first | rfl | (simp [errW_none, errW_some] <;> rfl) | (simp [*, errW_none, errW_some] <;> rfl), by (with_reducible repeat (first | apply Kd.R_alloc | apply Kd.R_drewN | apply Kd.R_drew)); exact HO_5.out, by repeat (first | (with_reducible first | exact HB.out | apply bA | apply bN | apply bD) | exact HB.out)⟩
     ·
      rw [if_neg c7] at H
      have c7b0 : decide ((rd l0 x7_1) ≤ x6_1) = false := decide_eq_false c7
      clear c7
      by_cases c8 : (rd l0 x7_1) ≥ a1
      ·
       rw [if_pos c8] at H
       have c8b0 : decide (a1 ≤ (rd l0 x7_1)) = true := decide_eq_true c8
       clear c8
       obtain rfl := Option.some.inj H
       have p105 : 0 ≤ (x7_1 : Int) := of_decide_eq_true (by assumption)
       have q105 : x7_1 < (l0.length : Int) := of_decide_eq_true (by assumption)
       obtain ⟨ad105, e105, hx105_0⟩ := Kd.at_int HR0.out x7_1 p105 q105
       cases e105
       replace hx105_0 := (HB.out.cell (World.block_lt_of_cell? w _ hx105_0)).trans hx105_0
       replace p105 := eq_true p105
       replace q105 := eq_true q105
       have p106 : 0 ≤ (x7_1 : Int) := of_decide_eq_true (by assumption)
       have q106 : x7_1 < (l0.length : Int) := of_decide_eq_true (by assumption)
       obtain ⟨ad106, e106, hx106_0⟩ := Kd.at_int HR0.out x7_1 p106 q106
       obtain rfl : ad105 = ad106 := (by injection e106)
       replace hx106_0 := (HB.out.cell (World.block_lt_of_cell? w _ hx106_0)).trans hx106_0
       replace p106 := eq_true p106
       replace q106 := eq_true q106
       go_wp2
       go_ret
       exact ⟨_, by first | rfl | (simp [errW_none, errW_some] <;> rfl) | (simp [*, errW_none, errW_some] <;> rfl), by (with_reducible repeat (first | apply Kd.R_alloc | apply Kd.R_drewN | apply Kd.R_drew)); exact HO_5.out, by repeat (first | (with_reducible first | exact HB.out | apply bA | apply bN | apply bD) | exact HB.out)⟩
      ·
       rw [if_neg c8] at H
       have c8b0 : decide (a1 ≤ (rd l0 x7_1)) = false := decide_eq_false c8
       clear c8
       by_cases c9 : x5_1.length < 8796093022208
       ·
        rw [if_pos c9] at H
        have LMc9 := aM c9
        clear c9
        obtain ⟨y108, hy108⟩ : ∃ y_ : List (S64), y_ = (x5_1 ++ [(⟨wrap64 (x6_1 + 1), rd l0 x7_1⟩ : S64)]) := ⟨_, rfl⟩
        replace H : (fleuronref03_Cuts.l0 k1 l0 a1 y108 (rd l0 x7_1) (wrap64 (x7_1 + 1))) = some r := by first | (rw [hy108]; with_reducible exact H) | (have H2_ := (Option.bind_some _ _).symm.trans H; rw [hy108]; with_reducible exact H2_) | (have H2_ := (Option.bind_some _ _).symm.trans H; with_reducible exact H2_) | with_reducible exact H | (rw [hy108]; exact H) | exact H
        have Ny108 := aM hy108
        clear hy108
        have H' := aM H
        clear H
        have p105 : 0 ≤ (x7_1 : Int) := of_decide_eq_true (by assumption)
        have q105 : x7_1 < (l0.length : Int) := of_decide_eq_true (by assumption)
        obtain ⟨ad105, e105, hx105_0⟩ := Kd.at_int HR0.out x7_1 p105 q105
        cases e105
        replace hx105_0 := (HB.out.cell (World.block_lt_of_cell? w _ hx105_0)).trans hx105_0
        replace p105 := eq_true p105
        replace q105 := eq_true q105
        have p106 : 0 ≤ (x7_1 : Int) := of_decide_eq_true (by assumption)
        have q106 : x7_1 < (l0.length : Int) := of_decide_eq_true (by assumption)
        obtain ⟨ad106, e106, hx106_0⟩ := Kd.at_int HR0.out x7_1 p106 q106
        obtain rfl : ad105 = ad106 := (by injection e106)
        replace hx106_0 := (HB.out.cell (World.block_lt_of_cell? w _ hx106_0)).trans hx106_0
        replace p106 := eq_true p106
        replace q106 := eq_true q106
        have p107 : 0 ≤ (x7_1 : Int) := of_decide_eq_true (by assumption)
        have q107 : x7_1 < (l0.length : Int) := of_decide_eq_true (by assumption)
        obtain ⟨ad107, e107, hx107_0⟩ := Kd.at_int HR0.out x7_1 p107 q107
        obtain rfl : ad105 = ad107 := (by injection e107)
        replace hx107_0 := (HB.out.cell (World.block_lt_of_cell? w _ hx107_0)).trans hx107_0
        replace p107 := eq_true p107
        replace q107 := eq_true q107
        go_wp2_with (first | ((with_reducible refine gate_builtin (b := .append) (xs := #[.tmp 30, .tmp 38]) rfl ?_); at_builtin; refine Kd.R_append k64 (w0 := w) w.heap.size rfl (.tmp 30) (.tmp 38) 75 64 (.agg #[(.int .i64 0), (.int .i64 0)]) 16 rfl Try.underlying75 info64 rfl (by decide) (by omega) u5 x5_1 (⟨wrap64 (x6_1 + 1), rd l0 x7_1⟩ : S64) [.int .i64 (wrap64 (x6_1 + 1)), .int .i64 (rd l0 x7_1)] (fun _ => True) (fun _ => False) rfl rfl ?aP (fun _ hk => hk.elim) ?aF ?aO ?aB ?aS ?aL ?_; (case aP => exact k64_mkM _ _ _ (⟨wrap64 (x6_1 + 1), rd l0 x7_1⟩ : S64)); (case aB => exact (by repeat (first | (with_reducible first | exact HB.out | apply bA | apply bN | apply bD) | exact HB.out))); (case aF => exact (fun _ _ => trivial)); (case aO => exact (by (with_reducible repeat (first | apply Kd.R_alloc | apply Kd.R_drewN | apply Kd.R_drew)); exact HO_5.out)); (case aS => exact (below_size (by repeat (first | (with_reducible first | exact HB.out | apply bA | apply bN | apply bD) | exact HB.out)))); (case aL => have := LMc9.out; omega); intro v109 w10 ho hb hg hat; rw [← Ny108.out] at ho; have n0_ := aM (hb); have n1_ := aM (ho); clear HB; clear HO_5; have HB := n0_; have HO110 := n1_; clear n0_ n1_; clear ho hb hg hat; have p111 : 0 ≤ (x7_1 : Int) := of_decide_eq_true (by assumption); have q111 : x7_1 < (l0.length : Int) := of_decide_eq_true (by assumption); obtain ⟨ad111, e111, hx111_0⟩ := Kd.at_int HR0.out x7_1 p111 q111; obtain rfl : ad105 = ad111 := (by injection e111); replace hx111_0 := (HB.out.cell (World.block_lt_of_cell? w _ hx111_0)).trans hx111_0; replace p111 := eq_true p111; replace q111 := eq_true q111))
        go_roundg k1
        case measure => have := HK1.out; omega
        case rel => exact ⟨(y108), (rd l0 x7_1), (wrap64 (x7_1 + 1)), (by first | rfl | (simp; done) | (simp [*]; done)), (by first | rfl | (simp; done) | (simp [*]; done)), H', ⟨by have := HK1.out; omega⟩, ⟨by (with_reducible repeat (first | apply Kd.R_alloc | apply Kd.R_drewN | apply Kd.R_drew)); exact HO110.out⟩, ⟨by repeat (first | (with_reducible first | exact HB.out | apply bA | apply bN | apply bD) | exact HB.out)⟩⟩
       ·
        rw [if_neg c9] at H
        exact absurd H (by simp)
    ·
     rw [if_neg c6] at H
     exact absurd H (by simp)
   ·
    rw [if_neg c5] at H
    have c5b0 : decide (x7_1 < (l0.length : Int)) = false := decide_eq_false c5
    clear c5
    obtain rfl := Option.some.inj H
    go_wp2
    go_ret
    exact ⟨_, by first | rfl | (simp [errW_none, errW_some] <;> rfl) | (simp [*, errW_none, errW_some] <;> rfl), by (with_reducible repeat (first | apply Kd.R_alloc | apply Kd.R_drewN | apply Kd.R_drew)); exact HO_5.out, by repeat (first | (with_reducible first | exact HB.out | apply bA | apply bN | apply bD) | exact HB.out)⟩

/-! ### fleuronref03_Contours: function 17 -/
def fleuronref03_Contours.l0 : Nat → List (List (S33)) → List (S64) → Int → List (S33) → List Int → Option ((List (List (S33))))
 | 0, _, _, _, _, _ => none
 | k + 1, x3, x4, x5, x113000, x113001 => if x5 < (x4.length : Int) then ((some (([] : List (S33)) : List (S33))).bind fun y119 => (if 0 ≤ x5 then (if 0 ≤ ((rd_T64 x4 x5).f0) then (if ((rd_T64 x4 x5).f0) ≤ (wrap64 (((rd_T64 x4 x5).f1) + 1)) then (if (wrap64 (((rd_T64 x4 x5).f1) + 1)) ≤ (x113000.length : Int) then ((some ((x113000.take ((wrap64 (((rd_T64 x4 x5).f1) + 1)) : Int).toNat).drop (((rd_T64 x4 x5).f0) : Int).toNat : List (S33))).bind fun y124 => (if y119.length + y124.length < 5864062014805 then (if x3.length < 5864062014805 then (fleuronref03_Contours.l0 k (x3 ++ [(y119 ++ y124)]) x4 (wrap64 (x5 + 1)) x113000 x113001) else (none)) else (none))) else (none)) else (none)) else (none)) else (none))) else (some x3)
def fleuronref03_Contours.f (k : Nat) (l0_0 : List (S33)) (l0_1 : List Int) : Option ((List (List (S33)))) := (fleuronref03_Cuts.f k l0_1 (l0_0.length : Int)).bind fun t116 => (fleuronref03_Contours.l0 k (([] : List (List (S33)))) t116 0 l0_0 l0_1)
theorem fleuronref03_Contours.mono_l : ∀ k, (∀ y0 y1 y2 y3 y4, LeO (fleuronref03_Contours.l0 k y0 y1 y2 y3 y4) (fleuronref03_Contours.l0 (k + 1) y0 y1 y2 y3 y4))
 | 0 => fun _ _ _ _ _ r h => by simp [fleuronref03_Contours.l0] at h
 | k + 1 => by
  have ih0 := fleuronref03_Contours.mono_l k
  ·
   intro y0 y1 y2 y3 y4
   unfold fleuronref03_Contours.l0
   repeat' first
   | (with_reducible exact ih0 _ _ _ _ _)
   | (with_reducible exact fleuronref03_Cuts.mono _ _ _)
   | (with_reducible exact LeO.refl _)
   | (with_reducible exact LeO.none _)
   | (with_reducible refine LeO.ite ?_ ?_)
   | (with_reducible refine LeO.bind ?_ (fun _ => ?_))
   | exact ih0 _ _ _ _ _
   | exact fleuronref03_Cuts.mono _ _ _
   | exact LeO.none _
   | refine LeO.ite ?_ ?_
   | refine LeO.bind ?_ (fun _ => ?_)
theorem fleuronref03_Contours.mono : ∀ a0 a1 k, LeO (fleuronref03_Contours.f k a0 a1) (fleuronref03_Contours.f (k + 1) a0 a1) := by
 intro a0 a1 k
 have ih0 := fleuronref03_Contours.mono_l k
 unfold fleuronref03_Contours.f
 repeat' first
   | (with_reducible exact ih0 _ _ _ _ _)
   | (with_reducible exact fleuronref03_Cuts.mono _ _ _)
   | (with_reducible exact LeO.refl _)
   | (with_reducible exact LeO.none _)
   | (with_reducible refine LeO.ite ?_ ?_)
   | (with_reducible refine LeO.bind ?_ (fun _ => ?_))
   | exact ih0 _ _ _ _ _
   | exact fleuronref03_Cuts.mono _ _ _
   | exact LeO.none _
   | refine LeO.ite ?_ ?_
   | refine LeO.bind ?_ (fun _ => ?_)
def fleuronref03_Contours.T7 : Bool × List (List Nat × List Nat) := (true, [([], []), ([], []), ([], []), ([2], [2]), ([], []), ([], []), ([4, 5], [4, 5]), ([6], [6]), ([7], [7]), ([], []), ([], []), ([9, 10], [9, 10]), ([11], [11]), ([12], [12]), ([13], [13]), ([3, 8, 14], [3, 8, 14]), ([1, 15], [1, 15]), ([16], [16]), ([0, 17, 16], [0, 17]), ([18, 18, 0, 1, 2, 3, 4, 5, 6, 7, 8, 9, 10, 11, 12, 13, 14, 15, 16, 17, 18], [0, 18])])
def fleuronref03_Contours.B7 : List Nat := [0, 0, 0, 4, 0, 0, 48, 112, 240, 0, 0, 1536, 3584, 7680, 15872, 32764, 65534, 131070, 262143, 524287]
theorem fleuronref03_Contours.tab7 : rtab .any (opsOf Try.f17 7) = fleuronref03_Contours.T7 := by kernel_rfl
theorem fleuronref03_Contours.bits7 : waitsOk fleuronref03_Contours.T7.2 fleuronref03_Contours.B7 = true := by kernel_rfl
set_option maxHeartbeats 8000000 in
set_option maxRecDepth 100000 in
theorem fleuronref03_Contours.calls (k : Nat) (A0_0 : Option Addr) (c0_0 : Nat) (l0_0 : List (S33)) (A0_1 : Option Addr) (c0_1 : Nat) (l0_1 : List Int) (r : List (List (S33))) (w : World) (hr0_0 : Kd.C k33 w A0_0 l0_0.length l0_0) (hc0_0 : l0_0.length ≤ c0_0) (hr0_1 : Kd.C (Kd.int .i64) w A0_1 l0_1.length l0_1) (hc0_1 : l0_1.length ≤ c0_1) (h : fleuronref03_Contours.f k l0_0 l0_1 = some r) :
  Calls Try.prog 17 #[.agg #[.slice A0_0 l0_0.length c0_0, .slice A0_1 l0_1.length c0_1]] w fun e w' => ∃ v0_ : Value, e = .returned (v0_) ∧ Kd.S (Kd.slice 33 k33) 22 w' w.heap.size (fun _ => True) v0_ r ∧ Below w.heap.size w w' := by
 have hu25 := Try.underlying25
 have HR0_0 := aM hr0_0
 have HC0_0 := aM hc0_0
 clear hr0_0 hc0_0
 have HR0_1 := aM hr0_1
 have HC0_1 := aM hc0_1
 clear hr0_1 hc0_1
 have HB := aM (Below.refl w.heap.size w)
 have H : ((fleuronref03_Cuts.f k l0_1 (l0_0.length : Int)).bind fun t116 => (fleuronref03_Contours.l0 k (([] : List (List (S33)))) t116 0 l0_0 l0_1)) = some r := h
 clear h
 obtain ⟨y113, hy113⟩ : ∃ y_ : List (List (S33)), y_ = (([] : List (List (S33)))) := ⟨_, rfl⟩
 replace H : ((fleuronref03_Cuts.f k l0_1 (l0_0.length : Int)).bind fun t116 => (fleuronref03_Contours.l0 k y113 t116 0 l0_0 l0_1)) = some r := by first | (rw [hy113]; with_reducible exact H) | (have H2_ := (Option.bind_some _ _).symm.trans H; rw [hy113]; with_reducible exact H2_) | (have H2_ := (Option.bind_some _ _).symm.trans H; with_reducible exact H2_) | with_reducible exact H | (rw [hy113]; exact H) | exact H
 have Ny113 := aM hy113
 clear hy113
 replace H := Option.bind_eq_some_iff.mp H
 obtain ⟨t116, A20, H⟩ := H
 replace H : (fleuronref03_Contours.l0 k y113 t116 0 l0_0 l0_1) = some r := H
 have A2 := aM A20
 clear A20
 have H' := aM H
 clear H
 go_enter Try.func17, Try.ntmps17
 go_wp2_with (first | ((with_reducible refine gate_dst (N := 1) rfl ?_); refine box_event ?hg (N := 1) ?hd (cs := #[.slice A0_0 l0_0.length c0_0, .slice A0_1 l0_1.length c0_1]) (t := 25) ?hr ?_; (case hd => rfl); (case hg => rfl); (case hr => first | (go_simp; done) | (go_simp; rfl)); intro gb112 hg w3 hbox hb; have n0_ := aM (below_step (by repeat (first | (with_reducible first | exact HB.out | apply bA | apply bN | apply bD) | exact HB.out)) hb); have n1_ := aM (hbox); have n2_ := aM ((by rw [hg]; exact (below_size (by repeat (first | (with_reducible first | exact HB.out | apply bA | apply bN | apply bD) | exact HB.out))) : w.heap.size ≤ gb112)); have n3_ := aM ((by rw [hg]; exact (below_size (by repeat (first | (with_reducible first | exact HB.out | apply bA | apply bN | apply bD) | exact HB.out))) : w.heap.size ≤ gb112)); clear HB; have HB := n0_; have BK112 := n1_; have GW112 := n2_; have GE112 := n3_; clear n0_ n1_ n2_ n3_; clear hb hbox hg) | ((with_reducible refine gate_dst (N := 7) rfl ?_); refine Kd.S_lit (Kd.slice 33 k33) _ 22 ?hg (N := 7) ?hd (xs := ([] : List (List (S33)))) (inner := []) (ok := fun _ => True) (okp := fun _ => True) ?hr ?hp (fun _ hk => hk) trivial (Below.refl _ _) (Nat.le_refl _) (by simp) ?_; (case hd => rfl); (case hg => rfl); (case hr => first | (go_simp; done) | (go_simp; rfl)); (case hp => exact (Reps.none _ _)); intro v114 w4 ho5 hb hg_ hnew_; clear hg_ hnew_; (first | rw [← Ny113.out] at ho5 | (simp only [Int.reduceToNat] at ho5; rw [← Ny113.out] at ho5)); have n0_ := aM (Kd.S_lower ho5 (below_size (by repeat (first | (with_reducible first | exact HB.out | apply bA | apply bN | apply bD | refine bS ?_ GE112.out) | exact HB.out)))); have n1_ := aM (blk_below (g := gb112) (o := .cells #[.slice A0_0 l0_0.length c0_0, .slice A0_1 l0_1.length c0_1] 25 (0, 0)) (by (with_reducible repeat (first | refine kN ?_ _ | refine kD ?_ | refine kA ?_ _)); exact BK112.out) hb); have n2_ := aM (below_step (by repeat (first | (with_reducible first | exact HB.out | apply bA | apply bN | apply bD | refine bS ?_ GE112.out) | exact HB.out)) hb); clear BK112; clear HB; have HO115 := n0_; have BK112 := n1_; have HB := n2_; clear n0_ n1_ n2_; clear hb ho5; have hcz6_0 : w4.cell? ⟨gb112, 0, none⟩ = some (.slice A0_0 l0_0.length c0_0) := (blk_cell BK112.out 0).trans rfl; have hcz6_1 : w4.cell? ⟨gb112, 1, none⟩ = some (.slice A0_1 l0_1.length c0_1) := (blk_cell BK112.out 1).trans rfl; have hfz6_0 := blk_frozen BK112.out 0; have hfz6_1 := blk_frozen BK112.out 1) | ((with_reducible refine gate_callee (f := 42) rfl ?_); refine goesL_ (some 13) rfl rfl Try.func42 (by kernel_rfl) rfl #[.slice A0_1 l0_1.length c0_1, .int .i64 (l0_0.length : Int)] rfl (by (try simp only [List.map_toArray, List.map_cons, List.map_nil]); first | done | rfl | (simp only [List.length_drop, List.length_take]; rfl)) ?_; (with_reducible refine (fleuronref03_Cuts.calls k _ _ l0_1 (l0_0.length : Int) t116 _ ?side1 ?side2 A2.out).mono ?_); (case side1 => repeat (first | exact (Kd.C_below HR0_1.out HB.out) | (with_reducible refine Kd.C_alloc ?_ _) | (with_reducible refine Kd.C_drewN ?_ _) | (with_reducible refine Kd.C_drew ?_))); (case side2 => exact HC0_1.out); rintro e w7 ⟨v117, rfl, ho0, hb⟩; refine ⟨_, rfl, ?_⟩; have n0_ := aM (Kd.S_below (by (with_reducible repeat (first | apply Kd.S_alloc | apply Kd.S_drewN | apply Kd.S_drew)); exact HO115.out) hb); have n1_ := aM (Kd.R_lower ho0 (below_size (by repeat (first | (with_reducible first | exact HB.out | apply bA | apply bN | apply bD | refine bS ?_ GE112.out) | exact HB.out)))); have n2_ := aM (blk_below (g := gb112) (o := .cells #[.slice A0_0 l0_0.length c0_0, .slice A0_1 l0_1.length c0_1] 25 (0, 0)) (by (with_reducible repeat (first | refine kN ?_ _ | refine kD ?_ | refine kA ?_ _)); exact BK112.out) hb); have n3_ := aM (below_step (by repeat (first | (with_reducible first | exact HB.out | apply bA | apply bN | apply bD | refine bS ?_ GE112.out) | exact HB.out)) hb); clear HO115; clear BK112; clear HB; have HO115 := n0_; have HO118 := n1_; have BK112 := n2_; have HB := n3_; clear n0_ n1_ n2_ n3_; (try clear hb); (try clear hb2); (try clear hk); (try clear hi); (try clear ho0)))
 go_loopg [3, 5] k (fun kq v3 v5 w' => ∃ (x3_1 : List (List (S33))) (x5_1 : Int), v5 = .int .i64 x5_1 ∧ Aside0 (fleuronref03_Contours.l0 kq x3_1 t116 x5_1 l0_0 l0_1 = some r) ∧ Aside0 (kq ≤ k) ∧ Aside0 (Kd.S (Kd.slice 33 k33) 22 w' w.heap.size (fun _ => True) v3 x3_1) ∧ Aside0 (Kd.R k64 64 w' w.heap.size (fun _ => True) v117 t116) ∧ Aside0 (w'.heap[gb112]? = some (.cells #[(.slice A0_0 l0_0.length c0_0), (.slice A0_1 l0_1.length c0_1)] 25 (0, 0))) ∧ Aside0 (Below w.heap.size w w'))
 case atStart => exact ⟨(y113), (0), (by first | rfl | (simp; done) | (simp [*]; done)), H', ⟨Nat.le_refl _⟩, ⟨by (with_reducible repeat (first | apply Kd.S_alloc | apply Kd.S_drewN | apply Kd.S_drew)); exact HO115.out⟩, ⟨by (with_reducible repeat (first | apply Kd.R_alloc | apply Kd.R_drewN | apply Kd.R_drew)); exact HO118.out⟩, ⟨by (with_reducible repeat (first | refine kN ?_ _ | refine kD ?_ | refine kA ?_ _)); exact BK112.out⟩, ⟨by repeat (first | (with_reducible first | exact HB.out | apply bA | apply bN | apply bD | refine bS ?_ GE112.out) | exact HB.out)⟩⟩
 case round =>
  clear H'
  try clear c1
  try clear p2
  try clear c4
  try clear hcz6_0
  try clear hcz6_1
  try clear hfz6_0
  try clear hfz6_1
  obtain ⟨x3_1, x5_1, rfl, HA, HK1, HO_3, HO_4, BK112, HB⟩ := hrel
  cases gk with
  | zero => exact absurd HA.out (by simp [fleuronref03_Contours.l0])
  | succ k1 =>
   have H := HA.out
   clear HA
   simp only [fleuronref03_Contours.l0] at H
   by_cases c8 : x5_1 < (t116.length : Int)
   ·
    rw [if_pos c8] at H
    have c8b0 : decide (x5_1 < (t116.length : Int)) = true := decide_eq_true c8
    clear c8
    obtain ⟨y119, hy119⟩ : ∃ y_ : List (S33), y_ = (([] : List (S33))) := ⟨_, rfl⟩
    replace H : (if 0 ≤ x5_1 then (if 0 ≤ ((rd_T64 t116 x5_1).f0) then (if ((rd_T64 t116 x5_1).f0) ≤ (wrap64 (((rd_T64 t116 x5_1).f1) + 1)) then (if (wrap64 (((rd_T64 t116 x5_1).f1) + 1)) ≤ (l0_0.length : Int) then ((some ((l0_0.take ((wrap64 (((rd_T64 t116 x5_1).f1) + 1)) : Int).toNat).drop (((rd_T64 t116 x5_1).f0) : Int).toNat : List (S33))).bind fun y124 => (if y119.length + y124.length < 5864062014805 then (if x3_1.length < 5864062014805 then (fleuronref03_Contours.l0 k1 (x3_1 ++ [(y119 ++ y124)]) t116 (wrap64 (x5_1 + 1)) l0_0 l0_1) else (none)) else (none))) else (none)) else (none)) else (none)) else (none)) = some r := by first | (rw [hy119]; with_reducible exact H) | (have H2_ := (Option.bind_some _ _).symm.trans H; rw [hy119]; with_reducible exact H2_) | (have H2_ := (Option.bind_some _ _).symm.trans H; with_reducible exact H2_) | with_reducible exact H | (rw [hy119]; exact H) | exact H
    have Ny119 := aM hy119
    clear hy119
    by_cases c9 : 0 ≤ x5_1
    ·
     rw [if_pos c9] at H
     have c9b0 : decide (0 ≤ x5_1) = true := decide_eq_true c9
     clear c9
     by_cases c10 : 0 ≤ ((rd_T64 t116 x5_1).f0)
     ·
      rw [if_pos c10] at H
      have c10b0 := eq_true c10
      have c10b1 : decide (0 ≤ ((rd_T64 t116 x5_1).f0)) = true := decide_eq_true c10
      clear c10
      by_cases c11 : ((rd_T64 t116 x5_1).f0) ≤ (wrap64 (((rd_T64 t116 x5_1).f1) + 1))
      ·
       rw [if_pos c11] at H
       have c11b0 := eq_true c11
       have c11b1 : decide (((rd_T64 t116 x5_1).f0) ≤ (wrap64 (((rd_T64 t116 x5_1).f1) + 1))) = true := decide_eq_true c11
       by_cases c12 : (wrap64 (((rd_T64 t116 x5_1).f1) + 1)) ≤ (l0_0.length : Int)
       ·
        rw [if_pos c12] at H
        have c12b0 := eq_true c12
        have c12b1 : decide ((wrap64 (((rd_T64 t116 x5_1).f1) + 1)) ≤ (l0_0.length : Int)) = true := decide_eq_true c12
        obtain ⟨y124, hy124⟩ : ∃ y_ : List (S33), y_ = ((l0_0.take ((wrap64 (((rd_T64 t116 x5_1).f1) + 1)) : Int).toNat).drop (((rd_T64 t116 x5_1).f0) : Int).toNat) := ⟨_, rfl⟩
        replace H : (if y119.length + y124.length < 5864062014805 then (if x3_1.length < 5864062014805 then (fleuronref03_Contours.l0 k1 (x3_1 ++ [(y119 ++ y124)]) t116 (wrap64 (x5_1 + 1)) l0_0 l0_1) else (none)) else (none)) = some r := by first | (rw [hy124]; with_reducible exact H) | (have H2_ := (Option.bind_some _ _).symm.trans H; rw [hy124]; with_reducible exact H2_) | (have H2_ := (Option.bind_some _ _).symm.trans H; with_reducible exact H2_) | with_reducible exact H | (rw [hy124]; exact H) | exact H
        have Ny124 := aM hy124
        clear hy124
        by_cases c13 : y119.length + y124.length < 5864062014805
        ·
         rw [if_pos c13] at H
         have LMc13 := aM c13
         clear c13
         obtain ⟨y128, hy128⟩ : ∃ y_ : List (S33), y_ = (y119 ++ y124) := ⟨_, rfl⟩
         replace H : (if x3_1.length < 5864062014805 then (fleuronref03_Contours.l0 k1 (x3_1 ++ [y128]) t116 (wrap64 (x5_1 + 1)) l0_0 l0_1) else (none)) = some r := by first | (rw [hy128]; with_reducible exact H) | (have H2_ := (Option.bind_some _ _).symm.trans H; rw [hy128]; with_reducible exact H2_) | (have H2_ := (Option.bind_some _ _).symm.trans H; with_reducible exact H2_) | with_reducible exact H | (rw [hy128]; exact H) | exact H
         have Ny128 := aM hy128
         clear hy128
         by_cases c14 : x3_1.length < 5864062014805
         ·
          rw [if_pos c14] at H
          have LMc14 := aM c14
          clear c14
          obtain ⟨y131, hy131⟩ : ∃ y_ : List (List (S33)), y_ = (x3_1 ++ [y128]) := ⟨_, rfl⟩
          replace H : (fleuronref03_Contours.l0 k1 y131 t116 (wrap64 (x5_1 + 1)) l0_0 l0_1) = some r := by first | (rw [hy131]; with_reducible exact H) | (have H2_ := (Option.bind_some _ _).symm.trans H; rw [hy131]; with_reducible exact H2_) | (have H2_ := (Option.bind_some _ _).symm.trans H; with_reducible exact H2_) | with_reducible exact H | (rw [hy131]; exact H) | exact H
          have Ny131 := aM hy131
          clear hy131
          have H' := aM H
          clear H
          obtain ⟨Ao15, co15, eo15⟩ := Kd.R_slice HO_4.out
          subst eo15
          try go_wp2_with (first | ((with_reducible refine gate_dst (N := 20) rfl ?_); refine Kd.R_lit k33 _ 33 ?hg (N := 20) ?hd (xs := ([] : List (S33))) (inner := []) (ok := fun _ => True) (okp := fun _ => True) ?hr ?hp (fun _ hk => hk) trivial (Below.refl _ _) (Nat.le_refl _) (by simp) ?_; (case hd => rfl); (case hg => rfl); (case hr => first | (go_simp; done) | (go_simp; rfl)); (case hp => exact (Reps.none _ _)); intro v120 w16 ho17 hb hg_ hnew_; clear hg_ hnew_; (first | rw [← Ny119.out] at ho17 | (simp only [Int.reduceToNat] at ho17; rw [← Ny119.out] at ho17)); have n0_ := aM (Kd.S_elder' (by (with_reducible repeat (first | apply Kd.S_alloc | apply Kd.S_drewN | apply Kd.S_drew)); exact HO_3.out) (Kd.R_base ho17) hb); have n1_ := aM (Kd.R_below (by (with_reducible repeat (first | apply Kd.R_alloc | apply Kd.R_drewN | apply Kd.R_drew)); exact HO_4.out) hb); have n2_ := aM (Kd.R_lower ho17 (below_size (by repeat (first | (with_reducible first | exact HB.out | apply bA | apply bN | apply bD | refine bS ?_ GE112.out) | exact HB.out)))); have n3_ := aM (blk_below (g := gb112) (o := .cells #[.slice A0_0 l0_0.length c0_0, .slice A0_1 l0_1.length c0_1] 25 (0, 0)) (by (with_reducible repeat (first | refine kN ?_ _ | refine kD ?_ | refine kA ?_ _)); exact BK112.out) hb); have n4_ := aM (below_step (by repeat (first | (with_reducible first | exact HB.out | apply bA | apply bN | apply bD | refine bS ?_ GE112.out) | exact HB.out)) hb); clear HO_3; clear HO_4; clear BK112; clear HB; have HO_3 := n0_; have HO_4 := n1_; have HO121 := n2_; have BK112 := n3_; have HB := n4_; clear n0_ n1_ n2_ n3_ n4_; clear hb ho17))
          have n0_ := aM (Kd.S_drew HO_3.out)
          have n1_ := aM (Kd.R_drew HO_4.out)
          have n2_ := aM (Kd.R_drew HO121.out)
          have n3_ := aM (kD BK112.out)
          have n4_ := aM (bD HB.out)
          clear HO_3
          clear HO_4
          clear HO121
          clear BK112
          clear HB
          have HO_3 := n0_
          have HO_4 := n1_
          have HO121 := n2_
          have BK112 := n3_
          have HB := n4_
          clear n0_ n1_ n2_ n3_ n4_
          have p122 : 0 ≤ (x5_1 : Int) := of_decide_eq_true (by assumption)
          have q122 : x5_1 < (t116.length : Int) := of_decide_eq_true (by assumption)
          obtain ⟨ad122, e122, hx122_0, hx122_1⟩ := at_T64 (Kd.R_reads' HO_4.out).2.2 x5_1 p122 q122
          cases e122
          replace p122 := eq_true p122
          replace q122 := eq_true q122
          have p123 : 0 ≤ (x5_1 : Int) := of_decide_eq_true (by assumption)
          have q123 : x5_1 < (t116.length : Int) := of_decide_eq_true (by assumption)
          obtain ⟨ad123, e123, hx123_0, hx123_1⟩ := at_T64 (Kd.R_reads' HO_4.out).2.2 x5_1 p123 q123
          obtain rfl : ad122 = ad123 := (by injection e123)
          replace p123 := eq_true p123
          replace q123 := eq_true q123
          have q19 : ((wrap64 (((rd_T64 t116 x5_1).f1) + 1)) : Int) ≤ ((l0_0.length : Int) : Int) := of_decide_eq_true (by assumption)
          obtain ⟨i019, hi019, _, hsz19, _⟩ := info_parts info33
          have hroom19 : l0_0.length ≤ c0_0 := HC0_0.out
          have hC19 : Kd.C k33 _ A0_0 l0_0.length l0_0 := HR0_0.out
          have ql19 : (((rd_T64 t116 x5_1).f0) : Int) ≤ ((wrap64 (((rd_T64 t116 x5_1).f1) + 1)) : Int) := of_decide_eq_true (by assumption)
          have q019 : (0 : Int) ≤ (((rd_T64 t116 x5_1).f0) : Int) := of_decide_eq_true (by assumption)
          have hcut19 := cut_mid (P := Try.prog) 22 33 .i64 .i64 Try.underlying22 hi019 3 hsz19 A0_0 l0_0.length c0_0 ((rd_T64 t116 x5_1).f0) (wrap64 (((rd_T64 t116 x5_1).f1) + 1)) q019 ql19 q19 hroom19
          have hr19 := Kd.C_mid (lo := (((rd_T64 t116 x5_1).f0) : Int).toNat) (hi := ((wrap64 (((rd_T64 t116 x5_1).f1) + 1)) : Int).toNat) (c := c0_0) hC19 (by omega) (by omega) hroom19
          obtain ⟨A19, hA19⟩ : ∃ A1, A1 = (if c0_0 = (((rd_T64 t116 x5_1).f0) : Int).toNat then A0_0 else (A0_0 : Option Addr).map (·.add ((((rd_T64 t116 x5_1).f0) : Int).toNat * 3))) := ⟨_, rfl⟩
          obtain ⟨c19, hc19⟩ : ∃ c1, c1 = c0_0 - (((rd_T64 t116 x5_1).f0) : Int).toNat := ⟨_, rfl⟩
          have hy19 : y124.length = ((wrap64 (((rd_T64 t116 x5_1).f1) + 1)) : Int).toNat - (((rd_T64 t116 x5_1).f0) : Int).toNat := (by rw [Ny124.out, List.length_drop, List.length_take] <;> omega)
          rw [show ((l0_0).take ((wrap64 (((rd_T64 t116 x5_1).f1) + 1)) : Int).toNat).drop (((rd_T64 t116 x5_1).f0) : Int).toNat = y124 from Ny124.out.symm] at hr19
          replace hr19 : Kd.C k33 _ A19 y124.length y124 := (by rw [hA19]; exact hr19)
          rw [← hy19, ← hA19, ← hc19] at hcut19
          have HR127 := aM hr19
          have HC127 := aM (show y124.length ≤ c19 from by rw [hy19, hc19]; exact Nat.sub_le_sub_right (Nat.le_trans (by omega) hroom19) _)
          clear hr19 hC19 hroom19 hi019 hsz19 hc19
          have KY19 := aM hy19
          have KA19 := aM hA19
          clear hy19 hA19
          replace q19 := eq_true q19
          refine start_ (n := 20) (S := fun w' => w'.cell? ⟨gb112, 0, none⟩ = some (.slice A0_0 l0_0.length c0_0) ∧ w'.cell? ⟨gb112, 1, none⟩ = some (.slice A0_1 l0_1.length c0_1) ∧ w'.cell? (ad122.add ((x5_1).toNat * 2)) = some (.int .i64 ((rd_T64 t116 x5_1).f0)) ∧ w'.cell? ⟨(ad122.add ((x5_1).toNat * 2)).block, (ad122.add ((x5_1).toNat * 2)).off + 1, none⟩ = some (.int .i64 ((rd_T64 t116 x5_1).f1)) ∧ w'.cell? (ad122.add ((x5_1).toNat * 2)) = some (.int .i64 ((rd_T64 t116 x5_1).f0)) ∧ w'.cell? ⟨(ad122.add ((x5_1).toNat * 2)).block, (ad122.add ((x5_1).toNat * 2)).off + 1, none⟩ = some (.int .i64 ((rd_T64 t116 x5_1).f1))) (ds := [16, 17, 18]) #[false, false, false, false, false, false, false, false, false, false, false, false, false, false, false, false, false, false, false, false] (by kernel_rfl) rfl rfl ⟨(blk_cell BK112.out 0).trans rfl, (blk_cell BK112.out 1).trans rfl, hx122_0, hx122_1, hx123_0, hx123_1⟩ (fun hHeld => ?_); refine with_tabW fleuronref03_Contours.tab7 fleuronref03_Contours.bits7 (fun HT_ HW_ => ?_)
          generalize w16.drew = w18 at HO_3 HO_4 HO121 BK112 HB HR127 hx122_0 hx122_1 hx123_0 hx123_1 hHeld ⊢
          refine pure_ (i := 0) (N := some 21) (v := ?_) (a' := ?_) #[true, false, false, false, false, false, false, false, false, false, false, false, false, false, false, false, false, false, false, false] rfl rfl (any_of HT_.out (by kernel_rfl)) (fun _ _ _ h => h) (Or.inl ⟨by rfl, ?_⟩) ?_ ?_
          rotate_left
          ·
           intro w'
           go_simp
           with_reducible rfl
          rotate_left
          ·
           simp only [Act.put, List.setIfInBounds_toArray, List.set_cons_zero, List.set_cons_succ, i64_w, i32_w]
           rfl
          refine pure_ (i := 1) (N := some 22) (v := ?_) (a' := ?_) #[true, true, false, false, false, false, false, false, false, false, false, false, false, false, false, false, false, false, false, false] rfl rfl (any_of HT_.out (by kernel_rfl)) (fun _ _ _ h => h) (Or.inl ⟨by rfl, ?_⟩) ?_ ?_
          rotate_left
          ·
           intro w'
           go_simp
           with_reducible rfl
          rotate_left
          ·
           simp only [Act.put, List.setIfInBounds_toArray, List.set_cons_zero, List.set_cons_succ, i64_w, i32_w]
           rfl
          refine pure_ (i := 2) (N := some 23) (v := ?_) (a' := ?_) #[true, true, true, false, false, false, false, false, false, false, false, false, false, false, false, false, false, false, false, false] rfl rfl (any_of HT_.out (by kernel_rfl)) (fun _ _ _ h => h) (Or.inl ⟨by rfl, ?_⟩) ?_ ?_
          rotate_left
          ·
           intro w'
           go_simp
           with_reducible rfl
          rotate_left
          ·
           simp only [Act.put, List.setIfInBounds_toArray, List.set_cons_zero, List.set_cons_succ, i64_w, i32_w]
           rfl
          refine pure_ (i := 4) (N := some 25) (v := ?_) (a' := ?_) #[true, true, true, false, true, false, false, false, false, false, false, false, false, false, false, false, false, false, false, false] rfl rfl (any_of HT_.out (by kernel_rfl)) (fun _ _ _ h => h) (Or.inl ⟨by rfl, ?_⟩) ?_ ?_
          rotate_left
          ·
           intro w'
           go_simp
           with_reducible rfl
          rotate_left
          ·
           simp only [Act.put, List.setIfInBounds_toArray, List.set_cons_zero, List.set_cons_succ, i64_w, i32_w]
           rfl
          refine pure_ (i := 5) (N := some 26) (v := ?_) (a' := ?_) #[true, true, true, false, true, true, false, false, false, false, false, false, false, false, false, false, false, false, false, false] rfl rfl (any_of HT_.out (by kernel_rfl)) (fun _ _ _ h => h) (Or.inl ⟨by rfl, ?_⟩) ?_ ?_
          rotate_left
          ·
           intro w'
           go_simp
           with_reducible rfl
          rotate_left
          ·
           simp only [Act.put, List.setIfInBounds_toArray, List.set_cons_zero, List.set_cons_succ, i64_w, i32_w]
           rfl
          refine pure_ (i := 6) (N := some 27) (v := ?_) (a' := ?_) #[true, true, true, false, true, true, true, false, false, false, false, false, false, false, false, false, false, false, false, false] rfl rfl (any_of HT_.out (by kernel_rfl)) (fun _ _ _ h => h) (Or.inl ⟨by rfl, ?_⟩) ?_ ?_
          rotate_left
          ·
           intro w'
           go_simp
           with_reducible rfl
          rotate_left
          ·
           simp only [Act.put, List.setIfInBounds_toArray, List.set_cons_zero, List.set_cons_succ, i64_w, i32_w]
           rfl
          refine pure_ (i := 7) (N := some 28) (v := ?_) (a' := ?_) #[true, true, true, false, true, true, true, true, false, false, false, false, false, false, false, false, false, false, false, false] rfl rfl (any_of HT_.out (by kernel_rfl)) (fun _ _ _ h => h) (Or.inl ⟨by rfl, ?_⟩) ?_ ?_
          rotate_left
          ·
           intro w'
           go_simp
           with_reducible rfl
          rotate_left
          ·
           simp only [Act.put, List.setIfInBounds_toArray, List.set_cons_zero, List.set_cons_succ, i64_w, i32_w]
           rfl
          refine pure_ (i := 9) (N := some 30) (v := ?_) (a' := ?_) #[true, true, true, false, true, true, true, true, false, true, false, false, false, false, false, false, false, false, false, false] rfl rfl (any_of HT_.out (by kernel_rfl)) (fun _ _ _ h => h) (Or.inl ⟨by rfl, ?_⟩) ?_ ?_
          rotate_left
          ·
           intro w'
           go_simp
           with_reducible rfl
          rotate_left
          ·
           simp only [Act.put, List.setIfInBounds_toArray, List.set_cons_zero, List.set_cons_succ, i64_w, i32_w]
           rfl
          refine pure_ (i := 10) (N := some 31) (v := ?_) (a' := ?_) #[true, true, true, false, true, true, true, true, false, true, true, false, false, false, false, false, false, false, false, false] rfl rfl (any_of HT_.out (by kernel_rfl)) (fun _ _ _ h => h) (Or.inl ⟨by rfl, ?_⟩) ?_ ?_
          rotate_left
          ·
           intro w'
           go_simp
           with_reducible rfl
          rotate_left
          ·
           simp only [Act.put, List.setIfInBounds_toArray, List.set_cons_zero, List.set_cons_succ, i64_w, i32_w]
           rfl
          refine pure_ (i := 11) (N := some 32) (v := ?_) (a' := ?_) #[true, true, true, false, true, true, true, true, false, true, true, true, false, false, false, false, false, false, false, false] rfl rfl (any_of HT_.out (by kernel_rfl)) (fun _ _ _ h => h) (Or.inl ⟨by rfl, ?_⟩) ?_ ?_
          rotate_left
          ·
           intro w'
           go_simp
           with_reducible rfl
          rotate_left
          ·
           simp only [Act.put, List.setIfInBounds_toArray, List.set_cons_zero, List.set_cons_succ, i64_w, i32_w]
           rfl
          refine pure_ (i := 12) (N := some 33) (v := ?_) (a' := ?_) #[true, true, true, false, true, true, true, true, false, true, true, true, true, false, false, false, false, false, false, false] rfl rfl (any_of HT_.out (by kernel_rfl)) (fun _ _ _ h => h) (Or.inl ⟨by rfl, ?_⟩) ?_ ?_
          rotate_left
          ·
           intro w'
           go_simp
           with_reducible rfl
          rotate_left
          ·
           simp only [Act.put, List.setIfInBounds_toArray, List.set_cons_zero, List.set_cons_succ, i64_w, i32_w]
           rfl
          refine take_ (i := 3) (N := some 24) (v := ?_) (a' := ?_) #[true, true, true, true, true, true, true, true, false, true, true, true, true, false, false, false, false, false, false, false] rfl rfl (take_ofW HT_.out HW_.out (by kernel_rfl)) (fun _ _ _ h => h) (Or.inl ⟨by rfl, ?_⟩) hHeld ?_ ?_
          rotate_left
          ·
           rintro w' ⟨s0, s1, s2, s3, s4, s5⟩
           go_simp
           with_reducible rfl
          rotate_left
          ·
           simp only [Act.put, List.setIfInBounds_toArray, List.set_cons_zero, List.set_cons_succ, i64_w, i32_w]
           rfl
          refine take_ (i := 8) (N := some 29) (v := ?_) (a' := ?_) #[true, true, true, true, true, true, true, true, true, true, true, true, true, false, false, false, false, false, false, false] rfl rfl (take_ofW HT_.out HW_.out (by kernel_rfl)) (fun _ _ _ h => h) (Or.inl ⟨by rfl, ?_⟩) hHeld ?_ ?_
          rotate_left
          ·
           rintro w' ⟨s0, s1, s2, s3, s4, s5⟩
           go_simp
           with_reducible rfl
          rotate_left
          ·
           simp only [Act.put, List.setIfInBounds_toArray, List.set_cons_zero, List.set_cons_succ, i64_w, i32_w]
           rfl
          refine take_ (i := 13) (N := some 34) (v := ?_) (a' := ?_) #[true, true, true, true, true, true, true, true, true, true, true, true, true, true, false, false, false, false, false, false] rfl rfl (take_ofW HT_.out HW_.out (by kernel_rfl)) (fun _ _ _ h => h) (Or.inl ⟨by rfl, ?_⟩) hHeld ?_ ?_
          rotate_left
          ·
           rintro w' ⟨s0, s1, s2, s3, s4, s5⟩
           go_simp
           with_reducible rfl
          rotate_left
          ·
           simp only [Act.put, List.setIfInBounds_toArray, List.set_cons_zero, List.set_cons_succ, i64_w, i32_w]
           rfl
          refine pure_ (i := 14) (N := some 35) (v := ?_) (a' := ?_) #[true, true, true, true, true, true, true, true, true, true, true, true, true, true, true, false, false, false, false, false] rfl rfl (any_of HT_.out (by kernel_rfl)) (fun _ _ _ h => h) (Or.inl ⟨by rfl, ?_⟩) ?_ ?_
          rotate_left
          ·
           intro w'
           go_simp
           with_reducible rfl
          rotate_left
          ·
           simp only [Act.put, List.setIfInBounds_toArray, List.set_cons_zero, List.set_cons_succ, i64_w, i32_w]
           rfl
          refine pure_ (i := 15) (N := some 36) (v := ?_) (a' := ?_) #[true, true, true, true, true, true, true, true, true, true, true, true, true, true, true, true, false, false, false, false] rfl rfl (any_of HT_.out (by kernel_rfl)) (fun _ _ _ h => h) (Or.inl ⟨by rfl, ?_⟩) ?_ ?_
          rotate_left
          ·
           intro w'
           go_simp
           with_reducible rfl
          rotate_left
          ·
           simp only [Act.put, List.setIfInBounds_toArray, List.set_cons_zero, List.set_cons_succ, i64_w, i32_w]
           rfl
          refine last_ (i := 16) (N := some 37) #[true, true, true, true, true, true, true, true, true, true, true, true, true, true, true, true, true, false, false, false] rfl rfl (one_of HT_.out (by kernel_rfl)) (by decide) (fun K hK => ?_)
          refine Kd.R_append_rows_step k33 (w0 := w) w.heap.size (by rfl) (.tmp 22) (.tmp 36) 22 33 (.agg #[(.int .i64 0), (.int .i64 0), (.bool false)]) 24 rfl Try.underlying22 info33 rfl (by decide) (by omega) v120 y119 y124 _ _ _ (fun _ => True) (fun _ => False) rfl rfl ?aO ?aR (fun _ _ h => h) (fun _ h => h.elim) ?aF ?aB ?aS ?aL ?_
          (case aR => repeat (first | exact (Kd.C_below HR127.out HB.out) | (with_reducible refine Kd.C_alloc ?_ _) | (with_reducible refine Kd.C_drewN ?_ _) | (with_reducible refine Kd.C_drew ?_)))
          (case aB => exact (by repeat (first | (with_reducible first | exact HB.out | apply bA | apply bN | apply bD | refine bS ?_ GE112.out) | exact HB.out)))
          (case aF => exact (fun _ _ => trivial))
          (case aO => exact (by (with_reducible repeat (first | apply Kd.R_alloc | apply Kd.R_drewN | apply Kd.R_drew)); exact HO121.out))
          (case aS => exact (below_size (by repeat (first | (with_reducible first | exact HB.out | apply bA | apply bN | apply bD | refine bS ?_ GE112.out) | exact HB.out))))
          (case aL => have := LMc13.out; omega)
          intro v129 w20 ho hb hg hat
          rw [← Ny128.out] at ho
          have n0_ := aM (Kd.S_after (ok := (fun _ => True)) (by (with_reducible repeat (first | apply Kd.S_alloc | apply Kd.S_drewN | apply Kd.S_drew)); exact HO_3.out) hg hat)
          have n1_ := aM (Kd.R_over' (by (with_reducible repeat (first | apply Kd.R_alloc | apply Kd.R_drewN | apply Kd.R_drew)); exact HO_4.out) (Kd.R_typed (by (with_reducible repeat (first | apply Kd.R_alloc | apply Kd.R_drewN | apply Kd.R_drew)); exact HO121.out)) (by decide) hg)
          have n2_ := aM (blk_grown (g := gb112) (o := .cells #[.slice A0_0 l0_0.length c0_0, .slice A0_1 l0_1.length c0_1] 25 (0, 0)) (by (with_reducible repeat (first | refine kN ?_ _ | refine kD ?_ | refine kA ?_ _)); exact BK112.out) hg (Kd.R_ne HO121.out BK112.out (by decide)))
          have n3_ := aM (hb)
          have n4_ := aM (ho)
          clear HO_3
          clear HO_4
          clear BK112
          clear HB
          clear HO121
          have HO_3 := n0_
          have HO_4 := n1_
          have BK112 := n2_
          have HB := n3_
          have HO130 := n4_
          clear n0_ n1_ n2_ n3_ n4_
          clear ho hb hg hat
          obtain ⟨Ao22, co22, eo22⟩ := Kd.R_slice HO130.out
          (first | subst eo22 | (injection eo22 with f1_ f2_ f3_; have f4_ := f1_.symm; have f5_ := f3_.symm; clear f1_ f2_ f3_; subst f4_; subst f5_))
          refine hK.out _ _ ?_
          clear hK K
          refine norm_ (a' := ?_) ?_ ?_
          rotate_left
          ·
           show Act.put _ (some 37) _ = _
           simp only [Act.put, List.setIfInBounds_toArray, List.set_cons_zero, List.set_cons_succ, i64_w, i32_w]
           rfl
          refine last_ (i := 17) (N := some 38) #[true, true, true, true, true, true, true, true, true, true, true, true, true, true, true, true, true, true, false, false] rfl rfl (one_of HT_.out (by kernel_rfl)) (by decide) (fun K hK => ?_)
          refine value_ (w1 := ?_) (v := ?_) (by rfl) rfl ?_ ?_
          rotate_left 2
          ·
           go_simp
           constructor
           ·
            rfl
           ·
            rfl
          refine hK.out _ _ ?_
          clear hK K
          refine norm_ (a' := ?_) ?_ ?_
          rotate_left
          ·
           show Act.put _ (some 38) _ = _
           simp only [Act.put, List.setIfInBounds_toArray, List.set_cons_zero, List.set_cons_succ, i64_w, i32_w]
           rfl
          refine last_ (i := 18) (N := some 39) #[true, true, true, true, true, true, true, true, true, true, true, true, true, true, true, true, true, true, true, false] rfl rfl (one_of HT_.out (by kernel_rfl)) (by decide) (fun K hK => ?_)
          refine Kd.S_append_step (Kd.slice 33 k33) (w0 := w) w.heap.size (by rfl) (.tmp 21) (.tmp 38) 27 22 (.slice none 0 0) 24 rfl Try.underlying27 info22 rfl (by decide) (by omega) u3 x3_1 y128 [.slice Ao22 y128.length co22] (fun _ => True) (fun k_ => some k_ = (.slice Ao22 y128.length co22 : Value).ownBlock) rfl rfl ?aP (fun k_ hk_ => ((Kd.R_mono (ok' := fun k_ => ((fun _ => True)) k_ ∧ some k_ ≠ (u3 : Value).ownBlock) (Kd.R_apart' (HO130.out) (Kd.S_typed HO_3.out) (by decide)) (fun k_ hk => ⟨trivial, hk.2⟩))).1 k_ hk_.symm) ?aF ?aO ?aB ?aS ?aL ?_
          (case aP => exact Kd.M_row (Kd.R_mono (Kd.R_tight rfl (Kd.R_mono (ok' := fun k_ => ((fun _ => True)) k_ ∧ some k_ ≠ (u3 : Value).ownBlock) (Kd.R_apart' (HO130.out) (Kd.S_typed HO_3.out) (by decide)) (fun k_ hk => ⟨trivial, hk.2⟩))) (fun _ h_ => h_)))
          (case aB => exact (by repeat (first | (with_reducible first | exact HB.out | apply bA | apply bN | apply bD | refine bS ?_ GE112.out) | exact HB.out)))
          (case aF => exact (fun _ _ => trivial))
          (case aO => exact (by (with_reducible repeat (first | apply Kd.S_alloc | apply Kd.S_drewN | apply Kd.S_drew)); exact Kd.S_mono HO_3.out (fun k_ hk => ⟨trivial, fun e_ => hk.2 e_⟩)))
          (case aS => exact (below_size (by repeat (first | (with_reducible first | exact HB.out | apply bA | apply bN | apply bD | refine bS ?_ GE112.out) | exact HB.out))))
          (case aL => have := LMc14.out; omega)
          intro v132 w21 ho hb hg hat
          rw [← Ny131.out] at ho
          have n0_ := aM (Kd.R_over' (by (with_reducible repeat (first | apply Kd.R_alloc | apply Kd.R_drewN | apply Kd.R_drew)); exact HO_4.out) (Kd.S_typed (by (with_reducible repeat (first | apply Kd.S_alloc | apply Kd.S_drewN | apply Kd.S_drew)); exact HO_3.out)) (by decide) hg)
          have n1_ := aM (blk_grown (g := gb112) (o := .cells #[.slice A0_0 l0_0.length c0_0, .slice A0_1 l0_1.length c0_1] 25 (0, 0)) (by (with_reducible repeat (first | refine kN ?_ _ | refine kD ?_ | refine kA ?_ _)); exact BK112.out) hg (Kd.S_ne HO_3.out BK112.out (by decide)))
          have n2_ := aM (hb)
          have n3_ := aM (ho)
          clear HO_4
          clear BK112
          clear HB
          clear HO_3
          clear HO130
          have HO_4 := n0_
          have BK112 := n1_
          have HB := n2_
          have HO133 := n3_
          clear n0_ n1_ n2_ n3_
          clear ho hb hg hat
          refine hK.out _ _ ?_
          clear hK K
          refine norm_ (a' := ?_) ?_ ?_
          rotate_left
          ·
           show Act.put _ (some 39) _ = _
           simp only [Act.put, List.setIfInBounds_toArray, List.set_cons_zero, List.set_cons_succ, i64_w, i32_w]
           rfl
          refine pure_ (i := 19) (N := some 3) (v := ?_) (a' := ?_) #[true, true, true, true, true, true, true, true, true, true, true, true, true, true, true, true, true, true, true, true] rfl rfl (any_of HT_.out (by kernel_rfl)) (fun _ _ _ h => h) (Or.inl ⟨by rfl, ?_⟩) ?_ ?_
          rotate_left
          ·
           intro w'
           go_simp
           with_reducible rfl
          rotate_left
          ·
           simp only [Act.put, List.setIfInBounds_toArray, List.set_cons_zero, List.set_cons_succ, i64_w, i32_w]
           rfl
          refine done_ (done_of HT_.out (by kernel_rfl)) ?_
          try go_wp2
          go_roundg k1
          case measure => have := HK1.out; omega
          case rel => exact ⟨(y131), (wrap64 (x5_1 + 1)), (by first | rfl | (simp; done) | (simp [*]; done)), H', ⟨by have := HK1.out; omega⟩, ⟨by (with_reducible repeat (first | apply Kd.S_alloc | apply Kd.S_drewN | apply Kd.S_drew)); exact HO133.out⟩, ⟨by (with_reducible repeat (first | apply Kd.R_alloc | apply Kd.R_drewN | apply Kd.R_drew)); exact HO_4.out⟩, ⟨by (with_reducible repeat (first | refine kN ?_ _ | refine kD ?_ | refine kA ?_ _)); exact BK112.out⟩, ⟨by repeat (first | (with_reducible first | exact HB.out | apply bA | apply bN | apply bD | refine bS ?_ GE112.out) | exact HB.out)⟩⟩
         ·
          rw [if_neg c14] at H
          exact absurd H (by simp)
        ·
         rw [if_neg c13] at H
         exact absurd H (by simp)
       ·
        rw [if_neg c12] at H
        exact absurd H (by simp)
      ·
       rw [if_neg c11] at H
       exact absurd H (by simp)
     ·
      rw [if_neg c10] at H
      exact absurd H (by simp)
    ·
     rw [if_neg c9] at H
     exact absurd H (by simp)
   ·
    rw [if_neg c8] at H
    have c8b0 : decide (x5_1 < (t116.length : Int)) = false := decide_eq_false c8
    clear c8
    obtain rfl := Option.some.inj H
    obtain ⟨Ao23, co23, eo23⟩ := Kd.R_slice HO_4.out
    subst eo23
    go_wp2
    go_ret
    exact ⟨_, by first | rfl | (simp [errW_none, errW_some] <;> rfl) | (simp [*, errW_none, errW_some] <;> rfl), by (with_reducible repeat (first | apply Kd.S_alloc | apply Kd.S_drewN | apply Kd.S_drew)); exact HO_3.out, by repeat (first | (with_reducible first | exact HB.out | apply bA | apply bN | apply bD | refine bS ?_ GE112.out) | exact HB.out)⟩

/-! ### fleuronref03_SamePoints: function 18 -/
def fleuronref03_SamePoints.l0 : Nat → List (S33) → List (S33) → Int → Option (Bool)
 | 0, _, _, _ => none
 | k + 1, x0, x1, x5 => if x5 < (x0.length : Int) then (if 0 ≤ x5 then (if x5 < (x1.length : Int) then (if (!(((rd_T33 x0 x5).f0) == ((rd_T33 x1 x5).f0)) || (!(((rd_T33 x0 x5).f1) == ((rd_T33 x1 x5).f1)) || (!(((rd_T33 x0 x5).f2) == ((rd_T33 x1 x5).f2))))) = true then (some false) else (fleuronref03_SamePoints.l0 k x0 x1 (wrap64 (x5 + 1)))) else (none)) else (none)) else (some true)
def fleuronref03_SamePoints.f (k : Nat) (l0 : List (S33)) (l1 : List (S33)) : Option (Bool) := if (l0.length : Int) = (l1.length : Int) then (fleuronref03_SamePoints.l0 k l0 l1 0) else (some false)
theorem fleuronref03_SamePoints.mono_l : ∀ k, (∀ y0 y1 y2, LeO (fleuronref03_SamePoints.l0 k y0 y1 y2) (fleuronref03_SamePoints.l0 (k + 1) y0 y1 y2))
 | 0 => fun _ _ _ r h => by simp [fleuronref03_SamePoints.l0] at h
 | k + 1 => by
  have ih0 := fleuronref03_SamePoints.mono_l k
  ·
   intro y0 y1 y2
   unfold fleuronref03_SamePoints.l0
   repeat' first
   | (with_reducible exact ih0 _ _ _)
   | (with_reducible exact LeO.refl _)
   | (with_reducible exact LeO.none _)
   | (with_reducible refine LeO.ite ?_ ?_)
   | (with_reducible refine LeO.bind ?_ (fun _ => ?_))
   | exact ih0 _ _ _
   | exact LeO.none _
   | refine LeO.ite ?_ ?_
   | refine LeO.bind ?_ (fun _ => ?_)
theorem fleuronref03_SamePoints.mono : ∀ a0 a1 k, LeO (fleuronref03_SamePoints.f k a0 a1) (fleuronref03_SamePoints.f (k + 1) a0 a1) := by
 intro a0 a1 k
 have ih0 := fleuronref03_SamePoints.mono_l k
 unfold fleuronref03_SamePoints.f
 repeat' first
   | (with_reducible exact ih0 _ _ _)
   | (with_reducible exact LeO.refl _)
   | (with_reducible exact LeO.none _)
   | (with_reducible refine LeO.ite ?_ ?_)
   | (with_reducible refine LeO.bind ?_ (fun _ => ?_))
   | exact ih0 _ _ _
   | exact LeO.none _
   | refine LeO.ite ?_ ?_
   | refine LeO.bind ?_ (fun _ => ?_)
set_option maxHeartbeats 8000000 in
set_option maxRecDepth 100000 in
theorem fleuronref03_SamePoints.calls (k : Nat) (A0 : Option Addr) (c0 : Nat) (l0 : List (S33)) (A1 : Option Addr) (c1 : Nat) (l1 : List (S33)) (r : Bool) (w : World) (hr0 : Kd.C k33 w A0 l0.length l0) (hc0 : l0.length ≤ c0) (hr1 : Kd.C k33 w A1 l1.length l1) (hc1 : l1.length ≤ c1) (h : fleuronref03_SamePoints.f k l0 l1 = some r) :
  Calls Try.prog 18 #[.slice A0 l0.length c0, .slice A1 l1.length c1] w fun e w' => e = .returned (.bool r) ∧ Drawn0 w w' := by
 have hu33 := Try.underlying33
 have HR0 := aM hr0
 have HC0 := aM hc0
 clear hr0 hc0
 have HR1 := aM hr1
 have HC1 := aM hc1
 clear hr1 hc1
 have H : (if (l0.length : Int) = (l1.length : Int) then (fleuronref03_SamePoints.l0 k l0 l1 0) else (some false)) = some r := h
 clear h
 by_cases c3 : (l0.length : Int) = (l1.length : Int)
 ·
  rw [if_pos c3] at H
  have c3b0 : ((l0.length : Int) == (l1.length : Int)) = true := beq_iff_eq.mpr c3
  have c3b1 : ((l0.length : Int) != (l1.length : Int)) = false := bne_eq_false_iff_eq.mpr c3
  have c3b2 : (l0.length == l1.length) = true := by first | simpa using c3 | (simp at c3 ⊢; omega)
  clear c3
  have H' := aM H
  clear H
  go_enter Try.func18, Try.ntmps18
  go_wp2
  repeat (go_quiet (fail); try go_wp2)
  go_loopg [5] k (fun kq v5 w' => ∃ (x5_1 : Int), v5 = .int .i64 x5_1 ∧ Aside0 (fleuronref03_SamePoints.l0 kq l0 l1 x5_1 = some r) ∧ Aside0 (kq ≤ k) ∧ Drawn0 w w')
  case atStart => exact ⟨(0), (by first | rfl | (simp; done) | (simp [*]; done)), H', ⟨Nat.le_refl _⟩, by repeat (first | exact Drawn0.refl _ | apply Drawn0.step)⟩
  case round =>
   clear H'
   try clear c1
   try clear p2
   try clear c3
   try clear c3b0
   try clear c3b1
   try clear c3b2
   obtain ⟨x5_1, rfl, HA, HK1, ⟨m1, rfl⟩⟩ := hrel
   cases gk with
   | zero => exact absurd HA.out (by simp [fleuronref03_SamePoints.l0])
   | succ k1 =>
    have H := HA.out
    clear HA
    simp only [fleuronref03_SamePoints.l0] at H
    by_cases c4 : x5_1 < (l0.length : Int)
    ·
     rw [if_pos c4] at H
     have c4b0 : decide (x5_1 < (l0.length : Int)) = true := decide_eq_true c4
     clear c4
     by_cases c5 : 0 ≤ x5_1
     ·
      rw [if_pos c5] at H
      have c5b0 : decide (0 ≤ x5_1) = true := decide_eq_true c5
      clear c5
      by_cases c6 : x5_1 < (l1.length : Int)
      ·
       rw [if_pos c6] at H
       have c6b0 : decide (x5_1 < (l1.length : Int)) = true := decide_eq_true c6
       clear c6
       by_cases c7 : (!(((rd_T33 l0 x5_1).f0) == ((rd_T33 l1 x5_1).f0)) || (!(((rd_T33 l0 x5_1).f1) == ((rd_T33 l1 x5_1).f1)) || (!(((rd_T33 l0 x5_1).f2) == ((rd_T33 l1 x5_1).f2))))) = true
       ·
        rw [if_pos c7] at H
        have c7b0 : (!(((rd_T33 l0 x5_1).f0) == ((rd_T33 l1 x5_1).f0)) || (!(((rd_T33 l0 x5_1).f1) == ((rd_T33 l1 x5_1).f1)) || (!(((rd_T33 l0 x5_1).f2) == ((rd_T33 l1 x5_1).f2))))) = true := c7
        clear c7
        obtain rfl := Option.some.inj H
        have p134 : 0 ≤ (x5_1 : Int) := of_decide_eq_true (by assumption)
        have q134 : x5_1 < (l0.length : Int) := of_decide_eq_true (by assumption)
        obtain ⟨ad134, e134, hx134_0, hx134_1, hx134_2⟩ := at_T33 HR0.out x5_1 p134 q134
        cases e134
        replace p134 := eq_true p134
        replace q134 := eq_true q134
        have p135 : 0 ≤ (x5_1 : Int) := of_decide_eq_true (by assumption)
        have q135 : x5_1 < (l1.length : Int) := of_decide_eq_true (by assumption)
        obtain ⟨ad135, e135, hx135_0, hx135_1, hx135_2⟩ := at_T33 HR1.out x5_1 p135 q135
        cases e135
        replace p135 := eq_true p135
        replace q135 := eq_true q135
        go_wp2
        repeat (go_quiet (fail); try go_wp2)
        go_ret
        exact ⟨by first | rfl | (simp; done) | (simp [*]; done), by repeat (first | exact Drawn0.refl _ | apply Drawn0.step)⟩
       ·
        rw [if_neg c7] at H
        have c7b0 : (!(((rd_T33 l0 x5_1).f0) == ((rd_T33 l1 x5_1).f0)) || (!(((rd_T33 l0 x5_1).f1) == ((rd_T33 l1 x5_1).f1)) || (!(((rd_T33 l0 x5_1).f2) == ((rd_T33 l1 x5_1).f2))))) = false := by simpa using c7
        clear c7
        have H' := aM H
        clear H
        have p134 : 0 ≤ (x5_1 : Int) := of_decide_eq_true (by assumption)
        have q134 : x5_1 < (l0.length : Int) := of_decide_eq_true (by assumption)
        obtain ⟨ad134, e134, hx134_0, hx134_1, hx134_2⟩ := at_T33 HR0.out x5_1 p134 q134
        cases e134
        replace p134 := eq_true p134
        replace q134 := eq_true q134
        have p135 : 0 ≤ (x5_1 : Int) := of_decide_eq_true (by assumption)
        have q135 : x5_1 < (l1.length : Int) := of_decide_eq_true (by assumption)
        obtain ⟨ad135, e135, hx135_0, hx135_1, hx135_2⟩ := at_T33 HR1.out x5_1 p135 q135
        cases e135
        replace p135 := eq_true p135
        replace q135 := eq_true q135
        go_wp2
        repeat (go_quiet (fail); try go_wp2)
        go_roundg k1
        case measure => have := HK1.out; omega
        case rel => exact ⟨(wrap64 (x5_1 + 1)), (by first | rfl | (simp; done) | (simp [*]; done)), H', ⟨by have := HK1.out; omega⟩, by repeat (first | exact Drawn0.refl _ | apply Drawn0.step)⟩
      ·
       rw [if_neg c6] at H
       exact absurd H (by simp)
     ·
      rw [if_neg c5] at H
      exact absurd H (by simp)
    ·
     rw [if_neg c4] at H
     have c4b0 : decide (x5_1 < (l0.length : Int)) = false := decide_eq_false c4
     clear c4
     obtain rfl := Option.some.inj H
     go_wp2
     repeat (go_quiet (fail); try go_wp2)
     go_ret
     exact ⟨by first | rfl | (simp; done) | (simp [*]; done), by repeat (first | exact Drawn0.refl _ | apply Drawn0.step)⟩
 ·
  rw [if_neg c3] at H
  have c3b0 : ((l0.length : Int) == (l1.length : Int)) = false := beq_eq_false_iff_ne.mpr c3
  have c3b1 : ((l0.length : Int) != (l1.length : Int)) = true := bne_iff_ne.mpr c3
  have c3b2 : (l0.length == l1.length) = false := by first | simpa using c3 | (simp at c3 ⊢; omega)
  obtain rfl := Option.some.inj H
  go_enter Try.func18, Try.ntmps18
  go_wp2
  repeat (go_quiet (fail); try go_wp2)
  go_ret
  exact ⟨by first | rfl | (simp; done) | (simp [*]; done), by repeat (first | exact Drawn0.refl _ | apply Drawn0.step)⟩

end Go.Proofs.Ytbmklpcheopgoaa.H

namespace Go.Proofs.Ytbmklpcheopgoaa.H
open Go.RowKit Go.Proofs.YtbmklpcheopgoaaW.PrintWords Go.Proofs.YtbmklpcheopgoaaW.PrintLast Go.Proofs.YtbmklpcheopgoaaW.PrintMore
attribute [local go_sem] max2_int min2_int max_two min_two max_three min_three max_four min_four   -- for this text's walks alone
set_option linter.unusedVariables false
set_option linter.unusedSimpArgs false

/-! ### fleuronref03_ring: function 57 -/
mutual
def fleuronref03_ring.l0 : Nat → List (S52) → List Bool → Int → List (S106) → Int → Int → Option ((List (S106)))
 | 0, _, _, _, _, _, _ => none
 | k + 1, x0, x1, x5, x6, x7, x8 => if x8 < x5 then (if 0 ≤ x8 then (if x8 < (x1.length : Int) then (if rdOf false x1 x8 = true then (fleuronref03_ring.j1 k x0 x1 x5 x6 x7 x8 (decide (x7 < 0))) else (fleuronref03_ring.j1 k x0 x1 x5 x6 x7 x8 false)) else (none)) else (none)) else (if x7 < 0 then (fleuronref03_ring.j4 k x6 (wrap64 ((x6.length : Int) - 1))) else (fleuronref03_ring.j4 k x6 x7))
def fleuronref03_ring.j1 : Nat → List (S52) → List Bool → Int → List (S106) → Int → Int → Bool → Option ((List (S106)))
 | 0, _, _, _, _, _, _, _ => none
 | k + 1, x0, x1, x5, x6, x7, x8, x27 => if x27 = true then (fleuronref03_ring.j2 k x0 x1 x5 x6 (x6.length : Int) x8) else (fleuronref03_ring.j2 k x0 x1 x5 x6 x7 x8)
def fleuronref03_ring.j2 : Nat → List (S52) → List Bool → Int → List (S106) → Int → Int → Option ((List (S106)))
 | 0, _, _, _, _, _, _ => none
 | k + 1, x0, x1, x5, x6, x7, x8 => if 0 ≤ x8 then (if x8 < (x0.length : Int) then (if x8 < (x1.length : Int) then (if x6.length < 5864062014805 then ((some (x6 ++ [(⟨(⟨(rd_T52 x0 x8).f0, (rd_T52 x0 x8).f1⟩ : S52), rdOf false x1 x8⟩ : S106)] : List (S106))).bind fun y319 => (if x5 = 0 then (none) else (if rdOf false x1 x8 = true then (fleuronref03_ring.j3 k x0 x1 x5 y319 x7 x8 (Int.tmod (wrap64 (x8 + 1)) x5) false) else (if 0 ≤ (Int.tmod (wrap64 (x8 + 1)) x5) then (if (Int.tmod (wrap64 (x8 + 1)) x5) < (x1.length : Int) then (fleuronref03_ring.j3 k x0 x1 x5 y319 x7 x8 (Int.tmod (wrap64 (x8 + 1)) x5) (!(rdOf false x1 (Int.tmod (wrap64 (x8 + 1)) x5)))) else (none)) else (none))))) else (none)) else (none)) else (none)) else (none)
def fleuronref03_ring.j3 : Nat → List (S52) → List Bool → Int → List (S106) → Int → Int → Int → Bool → Option ((List (S106)))
 | 0, _, _, _, _, _, _, _, _ => none
 | k + 1, x0, x1, x5, x6, x7, x8, x9, x57 => if x57 = true then (if 0 ≤ x8 then (if x8 < (x0.length : Int) then (if 0 ≤ x9 then (if x9 < (x0.length : Int) then ((fleuronref03_half.f (wrap64 (((rd_T52 x0 x8).f0) + ((rd_T52 x0 x9).f0)))).bind fun t326 => ((fleuronref03_half.f (wrap64 (((rd_T52 x0 x8).f1) + ((rd_T52 x0 x9).f1)))).bind fun t329 => (if x6.length < 5864062014805 then (fleuronref03_ring.l0 k x0 x1 x5 (x6 ++ [(⟨(⟨t326, t329⟩ : S52), true⟩ : S106)]) x7 (wrap64 (x8 + 1))) else (none)))) else (none)) else (none)) else (none)) else (none)) else (fleuronref03_ring.l0 k x0 x1 x5 x6 x7 (wrap64 (x8 + 1)))
def fleuronref03_ring.j4 : Nat → List (S106) → Int → Option ((List (S106)))
 | 0, _, _ => none
 | k + 1, x6, x7 => fleuronref03_ring.l1 k x6 x7 (([] : List (S106))) 0
def fleuronref03_ring.l1 : Nat → List (S106) → Int → List (S106) → Int → Option ((List (S106)))
 | 0, _, _, _, _ => none
 | k + 1, x6, x7, x10, x11 => if x11 < (x6.length : Int) then (if (x6.length : Int) = 0 then (none) else (if 0 ≤ (Int.tmod (wrap64 (x7 + x11)) (x6.length : Int)) then (if (Int.tmod (wrap64 (x7 + x11)) (x6.length : Int)) < (x6.length : Int) then (if x10.length < 5864062014805 then (fleuronref03_ring.l1 k x6 x7 (x10 ++ [(⟨(⟨(rd_T106 x6 (Int.tmod (wrap64 (x7 + x11)) (x6.length : Int))).f0.f0, (rd_T106 x6 (Int.tmod (wrap64 (x7 + x11)) (x6.length : Int))).f0.f1⟩ : S52), (rd_T106 x6 (Int.tmod (wrap64 (x7 + x11)) (x6.length : Int))).f1⟩ : S106)]) (wrap64 (x11 + 1))) else (none)) else (none)) else (none))) else (some x10)
end
def fleuronref03_ring.f (k : Nat) (l0 : List (S52)) (l1 : List Bool) : Option ((List (S106))) := fleuronref03_ring.l0 k l0 l1 (l0.length : Int) (([] : List (S106))) (-1) 0
theorem fleuronref03_ring.mono_l : ∀ k, (∀ y0 y1 y2 y3 y4 y5, LeO (fleuronref03_ring.l0 k y0 y1 y2 y3 y4 y5) (fleuronref03_ring.l0 (k + 1) y0 y1 y2 y3 y4 y5)) ∧ (∀ y0 y1 y2 y3 y4 y5 y6, LeO (fleuronref03_ring.j1 k y0 y1 y2 y3 y4 y5 y6) (fleuronref03_ring.j1 (k + 1) y0 y1 y2 y3 y4 y5 y6)) ∧ (∀ y0 y1 y2 y3 y4 y5, LeO (fleuronref03_ring.j2 k y0 y1 y2 y3 y4 y5) (fleuronref03_ring.j2 (k + 1) y0 y1 y2 y3 y4 y5)) ∧ (∀ y0 y1 y2 y3 y4 y5 y6 y7, LeO (fleuronref03_ring.j3 k y0 y1 y2 y3 y4 y5 y6 y7) (fleuronref03_ring.j3 (k + 1) y0 y1 y2 y3 y4 y5 y6 y7)) ∧ (∀ y0 y1, LeO (fleuronref03_ring.j4 k y0 y1) (fleuronref03_ring.j4 (k + 1) y0 y1)) ∧ (∀ y0 y1 y2 y3, LeO (fleuronref03_ring.l1 k y0 y1 y2 y3) (fleuronref03_ring.l1 (k + 1) y0 y1 y2 y3))
 | 0 => ⟨fun _ _ _ _ _ _ r h => by simp [fleuronref03_ring.l0] at h, fun _ _ _ _ _ _ _ r h => by simp [fleuronref03_ring.j1] at h, fun _ _ _ _ _ _ r h => by simp [fleuronref03_ring.j2] at h, fun _ _ _ _ _ _ _ _ r h => by simp [fleuronref03_ring.j3] at h, fun _ _ r h => by simp [fleuronref03_ring.j4] at h, fun _ _ _ _ r h => by simp [fleuronref03_ring.l1] at h⟩
 | k + 1 => by
  obtain ⟨ih0, ih1, ih2, ih3, ih4, ih5⟩ := fleuronref03_ring.mono_l k
  refine ⟨?_, ?_, ?_, ?_, ?_, ?_⟩
  ·
   intro y0 y1 y2 y3 y4 y5
   unfold fleuronref03_ring.l0
   repeat' first
   | (with_reducible exact ih0 _ _ _ _ _ _)
   | (with_reducible exact ih1 _ _ _ _ _ _ _)
   | (with_reducible exact ih2 _ _ _ _ _ _)
   | (with_reducible exact ih3 _ _ _ _ _ _ _ _)
   | (with_reducible exact ih4 _ _)
   | (with_reducible exact ih5 _ _ _ _)
   | (with_reducible exact LeO.refl _)
   | (with_reducible exact LeO.none _)
   | (with_reducible refine LeO.ite ?_ ?_)
   | (with_reducible refine LeO.bind ?_ (fun _ => ?_))
   | exact ih0 _ _ _ _ _ _
   | exact ih1 _ _ _ _ _ _ _
   | exact ih2 _ _ _ _ _ _
   | exact ih3 _ _ _ _ _ _ _ _
   | exact ih4 _ _
   | exact ih5 _ _ _ _
   | exact LeO.none _
   | refine LeO.ite ?_ ?_
   | refine LeO.bind ?_ (fun _ => ?_)
  ·
   intro y0 y1 y2 y3 y4 y5 y6
   unfold fleuronref03_ring.j1
   repeat' first
   | (with_reducible exact ih0 _ _ _ _ _ _)
   | (with_reducible exact ih1 _ _ _ _ _ _ _)
   | (with_reducible exact ih2 _ _ _ _ _ _)
   | (with_reducible exact ih3 _ _ _ _ _ _ _ _)
   | (with_reducible exact ih4 _ _)
   | (with_reducible exact ih5 _ _ _ _)
   | (with_reducible exact LeO.refl _)
   | (with_reducible exact LeO.none _)
   | (with_reducible refine LeO.ite ?_ ?_)
   | (with_reducible refine LeO.bind ?_ (fun _ => ?_))
   | exact ih0 _ _ _ _ _ _
   | exact ih1 _ _ _ _ _ _ _
   | exact ih2 _ _ _ _ _ _
   | exact ih3 _ _ _ _ _ _ _ _
   | exact ih4 _ _
   | exact ih5 _ _ _ _
   | exact LeO.none _
   | refine LeO.ite ?_ ?_
   | refine LeO.bind ?_ (fun _ => ?_)
  ·
   intro y0 y1 y2 y3 y4 y5
   unfold fleuronref03_ring.j2
   repeat' first
   | (with_reducible exact ih0 _ _ _ _ _ _)
   | (with_reducible exact ih1 _ _ _ _ _ _ _)
   | (with_reducible exact ih2 _ _ _ _ _ _)
   | (with_reducible exact ih3 _ _ _ _ _ _ _ _)
   | (with_reducible exact ih4 _ _)
   | (with_reducible exact ih5 _ _ _ _)
   | (with_reducible exact LeO.refl _)
   | (with_reducible exact LeO.none _)
   | (with_reducible refine LeO.ite ?_ ?_)
   | (with_reducible refine LeO.bind ?_ (fun _ => ?_))
   | exact ih0 _ _ _ _ _ _
   | exact ih1 _ _ _ _ _ _ _
   | exact ih2 _ _ _ _ _ _
   | exact ih3 _ _ _ _ _ _ _ _
   | exact ih4 _ _
   | exact ih5 _ _ _ _
   | exact LeO.none _
   | refine LeO.ite ?_ ?_
   | refine LeO.bind ?_ (fun _ => ?_)
  ·
   intro y0 y1 y2 y3 y4 y5 y6 y7
   unfold fleuronref03_ring.j3
   repeat' first
   | (with_reducible exact ih0 _ _ _ _ _ _)
   | (with_reducible exact ih1 _ _ _ _ _ _ _)
   | (with_reducible exact ih2 _ _ _ _ _ _)
   | (with_reducible exact ih3 _ _ _ _ _ _ _ _)
   | (with_reducible exact ih4 _ _)
   | (with_reducible exact ih5 _ _ _ _)
   | (with_reducible exact LeO.refl _)
   | (with_reducible exact LeO.none _)
   | (with_reducible refine LeO.ite ?_ ?_)
   | (with_reducible refine LeO.bind ?_ (fun _ => ?_))
   | exact ih0 _ _ _ _ _ _
   | exact ih1 _ _ _ _ _ _ _
   | exact ih2 _ _ _ _ _ _
   | exact ih3 _ _ _ _ _ _ _ _
   | exact ih4 _ _
   | exact ih5 _ _ _ _
   | exact LeO.none _
   | refine LeO.ite ?_ ?_
   | refine LeO.bind ?_ (fun _ => ?_)
  ·
   intro y0 y1
   unfold fleuronref03_ring.j4
   repeat' first
   | (with_reducible exact ih0 _ _ _ _ _ _)
   | (with_reducible exact ih1 _ _ _ _ _ _ _)
   | (with_reducible exact ih2 _ _ _ _ _ _)
   | (with_reducible exact ih3 _ _ _ _ _ _ _ _)
   | (with_reducible exact ih4 _ _)
   | (with_reducible exact ih5 _ _ _ _)
   | (with_reducible exact LeO.refl _)
   | (with_reducible exact LeO.none _)
   | (with_reducible refine LeO.ite ?_ ?_)
   | (with_reducible refine LeO.bind ?_ (fun _ => ?_))
   | exact ih0 _ _ _ _ _ _
   | exact ih1 _ _ _ _ _ _ _
   | exact ih2 _ _ _ _ _ _
   | exact ih3 _ _ _ _ _ _ _ _
   | exact ih4 _ _
   | exact ih5 _ _ _ _
   | exact LeO.none _
   | refine LeO.ite ?_ ?_
   | refine LeO.bind ?_ (fun _ => ?_)
  ·
   intro y0 y1 y2 y3
   unfold fleuronref03_ring.l1
   repeat' first
   | (with_reducible exact ih0 _ _ _ _ _ _)
   | (with_reducible exact ih1 _ _ _ _ _ _ _)
   | (with_reducible exact ih2 _ _ _ _ _ _)
   | (with_reducible exact ih3 _ _ _ _ _ _ _ _)
   | (with_reducible exact ih4 _ _)
   | (with_reducible exact ih5 _ _ _ _)
   | (with_reducible exact LeO.refl _)
   | (with_reducible exact LeO.none _)
   | (with_reducible refine LeO.ite ?_ ?_)
   | (with_reducible refine LeO.bind ?_ (fun _ => ?_))
   | exact ih0 _ _ _ _ _ _
   | exact ih1 _ _ _ _ _ _ _
   | exact ih2 _ _ _ _ _ _
   | exact ih3 _ _ _ _ _ _ _ _
   | exact ih4 _ _
   | exact ih5 _ _ _ _
   | exact LeO.none _
   | refine LeO.ite ?_ ?_
   | refine LeO.bind ?_ (fun _ => ?_)
theorem fleuronref03_ring.mono : ∀ a0 a1 k, LeO (fleuronref03_ring.f k a0 a1) (fleuronref03_ring.f (k + 1) a0 a1) := by
 intro a0 a1 k
 obtain ⟨ih0, ih1, ih2, ih3, ih4, ih5⟩ := fleuronref03_ring.mono_l k
 unfold fleuronref03_ring.f
 repeat' first
   | (with_reducible exact ih0 _ _ _ _ _ _)
   | (with_reducible exact ih1 _ _ _ _ _ _ _)
   | (with_reducible exact ih2 _ _ _ _ _ _)
   | (with_reducible exact ih3 _ _ _ _ _ _ _ _)
   | (with_reducible exact ih4 _ _)
   | (with_reducible exact ih5 _ _ _ _)
   | (with_reducible exact LeO.refl _)
   | (with_reducible exact LeO.none _)
   | (with_reducible refine LeO.ite ?_ ?_)
   | (with_reducible refine LeO.bind ?_ (fun _ => ?_))
   | exact ih0 _ _ _ _ _ _
   | exact ih1 _ _ _ _ _ _ _
   | exact ih2 _ _ _ _ _ _
   | exact ih3 _ _ _ _ _ _ _ _
   | exact ih4 _ _
   | exact ih5 _ _ _ _
   | exact LeO.none _
   | refine LeO.ite ?_ ?_
   | refine LeO.bind ?_ (fun _ => ?_)
def fleuronref03_ring.T9 : Bool × List (List Nat × List Nat) := (true, [([], []), ([], []), ([], []), ([1, 2], [1, 2]), ([3], [3]), ([], []), ([], []), ([5, 6], [5, 6]), ([7], [7]), ([4, 8], [4, 8]), ([9], [9]), ([0, 10], [0, 10]), ([11, 11, 0, 1, 2, 3, 4, 5, 6, 7, 8, 9, 10, 11], [0, 11])])
def fleuronref03_ring.B9 : List Nat := [0, 0, 0, 6, 14, 0, 0, 96, 224, 510, 1022, 2047, 4095]
theorem fleuronref03_ring.tab9 : rtab .any (opsOf Try.f57 9) = fleuronref03_ring.T9 := by kernel_rfl
theorem fleuronref03_ring.bits9 : waitsOk fleuronref03_ring.T9.2 fleuronref03_ring.B9 = true := by kernel_rfl
def fleuronref03_ring.T12 : Bool × List (List Nat × List Nat) := (true, [([], []), ([], []), ([], []), ([1, 2], [1, 2]), ([3], [3]), ([4], [4]), ([], []), ([], []), ([6, 7], [6, 7]), ([8], [8]), ([9], [9]), ([5, 10], [5, 10]), ([11], [11]), ([], []), ([], []), ([13, 14], [13, 14]), ([15], [15]), ([16], [16]), ([], []), ([], []), ([18, 19], [18, 19]), ([20], [20]), ([21], [21]), ([17, 22], [17, 22]), ([23, 12], [23]), ([12, 24], [12, 24]), ([25], [25]), ([26], [26]), ([0, 27, 24], [0, 27]), ([28, 28, 0, 1, 2, 3, 4, 5, 6, 7, 8, 9, 10, 11, 12, 13, 14, 15, 16, 17, 18, 19, 20, 21, 22, 23, 24, 25, 26, 27, 28], [0, 28])])
def fleuronref03_ring.B12 : List Nat := [0, 0, 0, 6, 14, 30, 0, 0, 192, 448, 960, 2046, 4094, 0, 0, 24576, 57344, 122880, 0, 0, 786432, 1835008, 3932160, 8380416, 16777214, 33554430, 67108862, 134217726, 268435455, 536870911]
theorem fleuronref03_ring.tab12 : rtab .any (opsOf Try.f57 12) = fleuronref03_ring.T12 := by kernel_rfl
theorem fleuronref03_ring.bits12 : waitsOk fleuronref03_ring.T12.2 fleuronref03_ring.B12 = true := by kernel_rfl
set_option maxHeartbeats 8000000 in
set_option maxRecDepth 100000 in
theorem fleuronref03_ring.calls (k : Nat) (A0 : Option Addr) (c0 : Nat) (l0 : List (S52)) (A1 : Option Addr) (c1 : Nat) (l1 : List Bool) (r : List (S106)) (w : World) (hr0 : Kd.C k52 w A0 l0.length l0) (hc0 : l0.length ≤ c0) (hr1 : Kd.C Kd.bool w A1 l1.length l1) (hc1 : l1.length ≤ c1) (h : fleuronref03_ring.f k l0 l1 = some r) :
  Calls Try.prog 57 #[.slice A0 l0.length c0, .slice A1 l1.length c1] w fun e w' => ∃ v0_ : Value, e = .returned (v0_) ∧ Kd.R k106 106 w' w.heap.size (fun _ => True) v0_ r ∧ Below w.heap.size w w' := by
 have hu52 := Try.underlying52
 have hu106 := Try.underlying106
 have HR0 := aM hr0
 have HC0 := aM hc0
 clear hr0 hc0
 have HR1 := aM hr1
 have HC1 := aM hc1
 clear hr1 hc1
 have HB := aM (Below.refl w.heap.size w)
 have H : (fleuronref03_ring.l0 k l0 l1 (l0.length : Int) (([] : List (S106))) (-1) 0) = some r := h
 clear h
 obtain ⟨y313, hy313⟩ : ∃ y_ : List (S106), y_ = (([] : List (S106))) := ⟨_, rfl⟩
 replace H : (fleuronref03_ring.l0 k l0 l1 (l0.length : Int) y313 (-1) 0) = some r := by first | (rw [hy313]; with_reducible exact H) | (have H2_ := (Option.bind_some _ _).symm.trans H; rw [hy313]; with_reducible exact H2_) | (have H2_ := (Option.bind_some _ _).symm.trans H; with_reducible exact H2_) | with_reducible exact H | (rw [hy313]; exact H) | exact H
 have Ny313 := aM hy313
 clear hy313
 have H' := aM H
 clear H
 go_enter Try.func57, Try.ntmps57
 go_wp2_with (first | ((with_reducible refine gate_dst (N := 14) rfl ?_); refine Kd.R_lit k106 _ 106 ?hg (N := 14) ?hd (xs := ([] : List (S106))) (inner := []) (ok := fun _ => True) (okp := fun _ => True) ?hr ?hp (fun _ hk => hk) trivial (Below.refl _ _) (Nat.le_refl _) (by simp) ?_; (case hd => rfl); (case hg => rfl); (case hr => first | (go_simp; done) | (go_simp; rfl)); (case hp => exact (Reps.none _ _)); intro v314 w3 ho4 hb hg_ hnew_; clear hg_ hnew_; (first | rw [← Ny313.out] at ho4 | (simp only [Int.reduceToNat] at ho4; rw [← Ny313.out] at ho4)); have n0_ := aM (Kd.R_lower ho4 (below_size (by repeat (first | (with_reducible first | exact HB.out | apply bA | apply bN | apply bD) | exact HB.out)))); have n1_ := aM (below_step (by repeat (first | (with_reducible first | exact HB.out | apply bA | apply bN | apply bD) | exact HB.out)) hb); clear HB; have HO315 := n0_; have HB := n1_; clear n0_ n1_; clear hb ho4))
 go_loopg [6, 7, 8] k (fun kq v6 v7 v8 w' => ∃ (x6_1 : List (S106)) (x7_1 : Int) (x8_1 : Int), v7 = .int .i64 x7_1 ∧ v8 = .int .i64 x8_1 ∧ Aside0 (fleuronref03_ring.l0 kq l0 l1 (l0.length : Int) x6_1 x7_1 x8_1 = some r) ∧ Aside0 (kq ≤ k) ∧ Aside0 (Kd.R k106 106 w' w.heap.size (fun _ => True) v6 x6_1) ∧ Aside0 (Below w.heap.size w w'))
 case atStart => exact ⟨(y313), ((-1)), (0), (by first | rfl | (simp; done) | (simp [*]; done)), (by first | rfl | (simp; done) | (simp [*]; done)), H', ⟨Nat.le_refl _⟩, ⟨by (with_reducible repeat (first | apply Kd.R_alloc | apply Kd.R_drewN | apply Kd.R_drew)); exact HO315.out⟩, ⟨by repeat (first | (with_reducible first | exact HB.out | apply bA | apply bN | apply bD) | exact HB.out)⟩⟩
 case round =>
  clear H'
  try clear c1
  try clear p2
  obtain ⟨x6_1, x7_1, x8_1, rfl, rfl, HA, HK1, HO_6, HB⟩ := hrel
  cases gk with
  | zero => exact absurd HA.out (by simp [fleuronref03_ring.l0])
  | succ k1 =>
   have H := HA.out
   clear HA
   simp only [fleuronref03_ring.l0] at H
   by_cases c5 : x8_1 < (l0.length : Int)
   ·
    rw [if_pos c5] at H
    have c5b0 : decide (x8_1 < (l0.length : Int)) = true := decide_eq_true c5
    clear c5
    have HC6 := aM H
    clear H
    go_upto_region 7 with (fail)
    go_cut [27] (fun v27 wc => ∃ (kq : Nat) (x27_5 : Bool), v27 = .bool x27_5 ∧ Aside0 (fleuronref03_ring.j1 kq l0 l1 (l0.length : Int) x6_1 x7_1 x8_1 x27_5 = some r) ∧ Aside0 (kq ≤ k1) ∧ Aside0 (Kd.R k106 106 wc w.heap.size (fun _ => True) u6 x6_1) ∧ Aside0 (Below w.heap.size w wc))
    case first =>
     have H := HC6.out
     clear HC6
     by_cases c7 : 0 ≤ x8_1
     ·
      rw [if_pos c7] at H
      have c7b0 : decide (0 ≤ x8_1) = true := decide_eq_true c7
      clear c7
      (first | rw [c7b0] | (simp only [i64_w, i32_w]; rw [c7b0]) | skip)
      by_cases c8 : x8_1 < (l1.length : Int)
      ·
       rw [if_pos c8] at H
       have c8b0 : decide (x8_1 < (l1.length : Int)) = true := decide_eq_true c8
       clear c8
       obtain ⟨bq9, hbq9⟩ : ∃ b_ : Bool, b_ = (rdOf false l1 x8_1) := ⟨_, rfl⟩
       replace H : (if bq9 = true then (fleuronref03_ring.j1 k1 l0 l1 (l0.length : Int) x6_1 x7_1 x8_1 (decide (x7_1 < 0))) else (fleuronref03_ring.j1 k1 l0 l1 (l0.length : Int) x6_1 x7_1 x8_1 false)) = some r := by rw [← hbq9] at H; exact H
       have Nbq9 := aM hbq9
       clear hbq9
       by_cases c10 : bq9 = true
       ·
        subst c10
        have H1 : (fleuronref03_ring.j1 k1 l0 l1 (l0.length : Int) x6_1 x7_1 x8_1 (decide (x7_1 < 0))) = some r := by rw [if_pos rfl] at H; exact H
        clear H
        have H := H1
        clear H1
        have H' := aM H
        clear H
        have p316 : 0 ≤ (x8_1 : Int) := of_decide_eq_true (by assumption)
        have q316 : x8_1 < (l1.length : Int) := of_decide_eq_true (by assumption)
        obtain ⟨ad316, e316, hx316_0⟩ := Kd.at_bool HR1.out x8_1 p316 q316
        (try rw [← Nbq9.out] at hx316_0)
        cases e316
        replace hx316_0 := (HB.out.cell (World.block_lt_of_cell? w _ hx316_0)).trans hx316_0
        replace p316 := eq_true p316
        replace q316 := eq_true q316
        go_wp2
        go_meet
        case rel => exact ⟨_, (decide (x7_1 < 0)), (by first | rfl | (simp; done) | (simp [*]; done)), H', ⟨by have := HK1.out; first | omega | exact Nat.le_refl _⟩, ⟨by (with_reducible repeat (first | apply Kd.R_alloc | apply Kd.R_drewN | apply Kd.R_drew)); exact HO_6.out⟩, ⟨by repeat (first | (with_reducible first | exact HB.out | apply bA | apply bN | apply bD) | exact HB.out)⟩⟩
       ·
        replace c10 := Bool.eq_false_iff.mpr c10
        subst c10
        have H1 : (fleuronref03_ring.j1 k1 l0 l1 (l0.length : Int) x6_1 x7_1 x8_1 false) = some r := by rw [if_neg (show ¬ (false = true) by decide)] at H; exact H
        clear H
        have H := H1
        clear H1
        have H' := aM H
        clear H
        have p316 : 0 ≤ (x8_1 : Int) := of_decide_eq_true (by assumption)
        have q316 : x8_1 < (l1.length : Int) := of_decide_eq_true (by assumption)
        obtain ⟨ad316, e316, hx316_0⟩ := Kd.at_bool HR1.out x8_1 p316 q316
        (try rw [← Nbq9.out] at hx316_0)
        cases e316
        replace hx316_0 := (HB.out.cell (World.block_lt_of_cell? w _ hx316_0)).trans hx316_0
        replace p316 := eq_true p316
        replace q316 := eq_true q316
        go_wp2
        go_meet
        case rel => exact ⟨_, (false), (by first | rfl | (simp; done) | (simp [*]; done)), H', ⟨by have := HK1.out; first | omega | exact Nat.le_refl _⟩, ⟨by (with_reducible repeat (first | apply Kd.R_alloc | apply Kd.R_drewN | apply Kd.R_drew)); exact HO_6.out⟩, ⟨by repeat (first | (with_reducible first | exact HB.out | apply bA | apply bN | apply bD) | exact HB.out)⟩⟩
      ·
       rw [if_neg c8] at H
       exact absurd H (by simp)
     ·
      rw [if_neg c7] at H
      exact absurd H (by simp)
    case rest =>
     clear HC6
     try clear c1
     try clear p2
     try clear p3
     try clear q3
     try clear hx3
     try clear c5
     try clear c5b0
     try clear c7
     try clear c7b0
     try clear c8
     try clear c8b0
     try clear q9
     try clear c10
     try clear hx316_0
     try clear p2
     try clear p316
     try clear q316
     obtain ⟨kq, x27_5, rfl, HA, HJ5, HO_6, HB⟩ := hcut
     cases kq with
     | zero => exact absurd HA.out (by simp [fleuronref03_ring.j1])
     | succ kj5 =>
      have H := HA.out
      clear HA
      simp only [fleuronref03_ring.j1] at H
      have HC11 := aM H
      clear H
      go_upto_if 27 with (fail)
      go_cut [7] (fun v7 wc => ∃ (kq : Nat) (x7_10 : Int), v7 = .int .i64 x7_10 ∧ Aside0 (fleuronref03_ring.j2 kq l0 l1 (l0.length : Int) x6_1 x7_10 x8_1 = some r) ∧ Aside0 (kq ≤ kj5) ∧ Aside0 (Kd.R k106 106 wc w.heap.size (fun _ => True) u6 x6_1) ∧ Aside0 (Below w.heap.size w wc))
      case first =>
       have H := HC11.out
       clear HC11
       by_cases c12 : x27_5 = true
       ·
        subst c12
        have H1 : (fleuronref03_ring.j2 kj5 l0 l1 (l0.length : Int) x6_1 (x6_1.length : Int) x8_1) = some r := by rw [if_pos rfl] at H; exact H
        clear H
        have H := H1
        clear H1
        have H' := aM H
        clear H
        obtain ⟨Ao13, co13, eo13⟩ := Kd.R_slice HO_6.out
        subst eo13
        go_wp2
        go_meet
        case rel => exact ⟨_, ((x6_1.length : Int)), (by first | rfl | (simp; done) | (simp [*]; done)), H', ⟨by have := HK1.out; have := HJ5.out; first | omega | exact Nat.le_refl _⟩, ⟨by (with_reducible repeat (first | apply Kd.R_alloc | apply Kd.R_drewN | apply Kd.R_drew)); exact HO_6.out⟩, ⟨by repeat (first | (with_reducible first | exact HB.out | apply bA | apply bN | apply bD) | exact HB.out)⟩⟩
       ·
        replace c12 := Bool.eq_false_iff.mpr c12
        subst c12
        have H1 : (fleuronref03_ring.j2 kj5 l0 l1 (l0.length : Int) x6_1 x7_1 x8_1) = some r := by rw [if_neg (show ¬ (false = true) by decide)] at H; exact H
        clear H
        have H := H1
        clear H1
        have H' := aM H
        clear H
        go_wp2
        go_meet
        case rel => exact ⟨_, (x7_1), (by first | rfl | (simp; done) | (simp [*]; done)), H', ⟨by have := HK1.out; have := HJ5.out; first | omega | exact Nat.le_refl _⟩, ⟨by (with_reducible repeat (first | apply Kd.R_alloc | apply Kd.R_drewN | apply Kd.R_drew)); exact HO_6.out⟩, ⟨by repeat (first | (with_reducible first | exact HB.out | apply bA | apply bN | apply bD) | exact HB.out)⟩⟩
      case rest =>
       clear HC11
       try clear c1
       try clear p2
       try clear p3
       try clear q3
       try clear hx3
       try clear c5
       try clear c5b0
       try clear c7
       try clear c7b0
       try clear c8
       try clear c8b0
       try clear q9
       try clear c10
       try clear c12
       try clear hx316_0
       try clear p2
       try clear p3
       try clear p316
       try clear q3
       try clear q316
       try clear q9
       obtain ⟨kq, x7_10, rfl, HA, HJ10, HO_6, HB⟩ := hcut
       cases kq with
       | zero => exact absurd HA.out (by simp [fleuronref03_ring.j2])
       | succ kj10 =>
        have H := HA.out
        clear HA
        simp only [fleuronref03_ring.j2] at H
        by_cases c14 : 0 ≤ x8_1
        ·
         rw [if_pos c14] at H
         have c14b0 : decide (0 ≤ x8_1) = true := decide_eq_true c14
         clear c14
         by_cases c15 : x8_1 < (l0.length : Int)
         ·
          rw [if_pos c15] at H
          have c15b0 : decide (x8_1 < (l0.length : Int)) = true := decide_eq_true c15
          clear c15
          by_cases c16 : x8_1 < (l1.length : Int)
          ·
           rw [if_pos c16] at H
           have c16b0 : decide (x8_1 < (l1.length : Int)) = true := decide_eq_true c16
           clear c16
           by_cases c17 : x6_1.length < 5864062014805
           ·
            rw [if_pos c17] at H
            have LMc17 := aM c17
            clear c17
            obtain ⟨y319, hy319⟩ : ∃ y_ : List (S106), y_ = (x6_1 ++ [(⟨(⟨(rd_T52 l0 x8_1).f0, (rd_T52 l0 x8_1).f1⟩ : S52), rdOf false l1 x8_1⟩ : S106)]) := ⟨_, rfl⟩
            replace H : (if (l0.length : Int) = 0 then (none) else (if rdOf false l1 x8_1 = true then (fleuronref03_ring.j3 kj10 l0 l1 (l0.length : Int) y319 x7_10 x8_1 (Int.tmod (wrap64 (x8_1 + 1)) (l0.length : Int)) false) else (if 0 ≤ (Int.tmod (wrap64 (x8_1 + 1)) (l0.length : Int)) then (if (Int.tmod (wrap64 (x8_1 + 1)) (l0.length : Int)) < (l1.length : Int) then (fleuronref03_ring.j3 kj10 l0 l1 (l0.length : Int) y319 x7_10 x8_1 (Int.tmod (wrap64 (x8_1 + 1)) (l0.length : Int)) (!(rdOf false l1 (Int.tmod (wrap64 (x8_1 + 1)) (l0.length : Int))))) else (none)) else (none)))) = some r := by first | (rw [hy319]; with_reducible exact H) | (have H2_ := (Option.bind_some _ _).symm.trans H; rw [hy319]; with_reducible exact H2_) | (have H2_ := (Option.bind_some _ _).symm.trans H; with_reducible exact H2_) | with_reducible exact H | (rw [hy319]; exact H) | exact H
            have Ny319 := aM hy319
            clear hy319
            by_cases c18 : (l0.length : Int) = 0
            ·
             rw [if_pos c18] at H
             exact absurd H (by simp)
            ·
             rw [if_neg c18] at H
             have c18b0 : ((l0.length : Int) == 0) = false := beq_eq_false_iff_ne.mpr c18
             have c18b1 : ((l0.length : Int) != 0) = true := bne_iff_ne.mpr c18
             have c18b2 : ¬ (l0 = []) := fun h_ => c18 (by rw [h_]; rfl)
             have HC19 := aM H
             clear H
             try go_wp2
             have n0_ := aM (Kd.R_drew HO_6.out)
             have n1_ := aM (bD HB.out)
             clear HO_6
             clear HB
             have HO_6 := n0_
             have HB := n1_
             clear n0_ n1_
             have p317 : 0 ≤ (x8_1 : Int) := of_decide_eq_true (by assumption)
             have q317 : x8_1 < (l0.length : Int) := of_decide_eq_true (by assumption)
             obtain ⟨ad317, e317, hx317_0, hx317_1⟩ := at_T52 HR0.out x8_1 p317 q317
             have hw317_1 := hx317_1
             have hw317_0 := hx317_0
             cases e317
             replace hx317_0 := (HB.out.cell (World.block_lt_of_cell? w _ hx317_0)).trans hx317_0
             replace hx317_1 := (HB.out.cell (World.block_lt_of_cell? w _ hx317_1)).trans hx317_1
             replace p317 := eq_true p317
             replace q317 := eq_true q317
             have p318 : 0 ≤ (x8_1 : Int) := of_decide_eq_true (by assumption)
             have q318 : x8_1 < (l1.length : Int) := of_decide_eq_true (by assumption)
             obtain ⟨ad318, e318, hx318_0⟩ := Kd.at_bool HR1.out x8_1 p318 q318
             have hw318_0 := hx318_0
             cases e318
             replace hx318_0 := (HB.out.cell (World.block_lt_of_cell? w _ hx318_0)).trans hx318_0
             replace p318 := eq_true p318
             replace q318 := eq_true q318
             refine start_ (n := 13) (S := fun w' => w'.cell? (ad317.add ((x8_1).toNat * 2)) = some (.int .i64 ((rd_T52 l0 x8_1).f0)) ∧ w'.cell? ⟨(ad317.add ((x8_1).toNat * 2)).block, (ad317.add ((x8_1).toNat * 2)).off + 1, none⟩ = some (.int .i64 ((rd_T52 l0 x8_1).f1)) ∧ w'.cell? (ad318.add (x8_1).toNat) = some (.bool (rdOf false l1 x8_1))) (ds := []) #[false, false, false, false, false, false, false, false, false, false, false, false, false] (by kernel_rfl) rfl rfl ⟨((HB.out.cell (World.block_lt_of_cell? w _ hw317_0)).trans hw317_0), ((HB.out.cell (World.block_lt_of_cell? w _ hw317_1)).trans hw317_1), ((HB.out.cell (World.block_lt_of_cell? w _ hw318_0)).trans hw318_0)⟩ (fun hHeld => ?_); refine with_tabW fleuronref03_ring.tab9 fleuronref03_ring.bits9 (fun HT_ HW_ => ?_)
             generalize wc.drew = w20 at HO_6 HB hx317_0 hx317_1 hx318_0 hHeld ⊢
             refine pure_ (i := 0) (N := some 30) (v := ?_) (a' := ?_) #[true, false, false, false, false, false, false, false, false, false, false, false, false] rfl rfl (any_of HT_.out (by kernel_rfl)) (fun _ _ _ h => h) (Or.inl ⟨by rfl, ?_⟩) ?_ ?_
             rotate_left
             ·
              intro w'
              go_simp
              with_reducible rfl
             rotate_left
             ·
              simp only [Act.put, List.setIfInBounds_toArray, List.set_cons_zero, List.set_cons_succ, i64_w, i32_w]
              rfl
             refine pure_ (i := 1) (N := some 31) (v := ?_) (a' := ?_) #[true, true, false, false, false, false, false, false, false, false, false, false, false] rfl rfl (any_of HT_.out (by kernel_rfl)) (fun _ _ _ h => h) (Or.inl ⟨by rfl, ?_⟩) ?_ ?_
             rotate_left
             ·
              intro w'
              go_simp
              with_reducible rfl
             rotate_left
             ·
              simp only [Act.put, List.setIfInBounds_toArray, List.set_cons_zero, List.set_cons_succ, i64_w, i32_w]
              rfl
             refine pure_ (i := 2) (N := some 32) (v := ?_) (a' := ?_) #[true, true, true, false, false, false, false, false, false, false, false, false, false] rfl rfl (any_of HT_.out (by kernel_rfl)) (fun _ _ _ h => h) (Or.inl ⟨by rfl, ?_⟩) ?_ ?_
             rotate_left
             ·
              intro w'
              go_simp
              with_reducible rfl
             rotate_left
             ·
              simp only [Act.put, List.setIfInBounds_toArray, List.set_cons_zero, List.set_cons_succ, i64_w, i32_w]
              rfl
             refine pure_ (i := 3) (N := some 33) (v := ?_) (a' := ?_) #[true, true, true, true, false, false, false, false, false, false, false, false, false] rfl rfl (any_of HT_.out (by kernel_rfl)) (fun _ _ _ h => h) (Or.inl ⟨by rfl, ?_⟩) ?_ ?_
             rotate_left
             ·
              intro w'
              go_simp
              with_reducible rfl
             rotate_left
             ·
              simp only [Act.put, List.setIfInBounds_toArray, List.set_cons_zero, List.set_cons_succ, i64_w, i32_w]
              rfl
             refine pure_ (i := 5) (N := some 35) (v := ?_) (a' := ?_) #[true, true, true, true, false, true, false, false, false, false, false, false, false] rfl rfl (any_of HT_.out (by kernel_rfl)) (fun _ _ _ h => h) (Or.inl ⟨by rfl, ?_⟩) ?_ ?_
             rotate_left
             ·
              intro w'
              go_simp
              with_reducible rfl
             rotate_left
             ·
              simp only [Act.put, List.setIfInBounds_toArray, List.set_cons_zero, List.set_cons_succ, i64_w, i32_w]
              rfl
             refine pure_ (i := 6) (N := some 36) (v := ?_) (a' := ?_) #[true, true, true, true, false, true, true, false, false, false, false, false, false] rfl rfl (any_of HT_.out (by kernel_rfl)) (fun _ _ _ h => h) (Or.inl ⟨by rfl, ?_⟩) ?_ ?_
             rotate_left
             ·
              intro w'
              go_simp
              with_reducible rfl
             rotate_left
             ·
              simp only [Act.put, List.setIfInBounds_toArray, List.set_cons_zero, List.set_cons_succ, i64_w, i32_w]
              rfl
             refine pure_ (i := 7) (N := some 37) (v := ?_) (a' := ?_) #[true, true, true, true, false, true, true, true, false, false, false, false, false] rfl rfl (any_of HT_.out (by kernel_rfl)) (fun _ _ _ h => h) (Or.inl ⟨by rfl, ?_⟩) ?_ ?_
             rotate_left
             ·
              intro w'
              go_simp
              with_reducible rfl
             rotate_left
             ·
              simp only [Act.put, List.setIfInBounds_toArray, List.set_cons_zero, List.set_cons_succ, i64_w, i32_w]
              rfl
             refine take_ (i := 4) (N := some 34) (v := ?_) (a' := ?_) #[true, true, true, true, true, true, true, true, false, false, false, false, false] rfl rfl (take_ofW HT_.out HW_.out (by kernel_rfl)) (fun _ _ _ h => h) (Or.inl ⟨by rfl, ?_⟩) hHeld ?_ ?_
             rotate_left
             ·
              rintro w' ⟨s0, s1, s2⟩
              go_simp
              with_reducible rfl
             rotate_left
             ·
              simp only [Act.put, List.setIfInBounds_toArray, List.set_cons_zero, List.set_cons_succ, i64_w, i32_w]
              rfl
             refine take_ (i := 8) (N := some 38) (v := ?_) (a' := ?_) #[true, true, true, true, true, true, true, true, true, false, false, false, false] rfl rfl (take_ofW HT_.out HW_.out (by kernel_rfl)) (fun _ _ _ h => h) (Or.inl ⟨by rfl, ?_⟩) hHeld ?_ ?_
             rotate_left
             ·
              rintro w' ⟨s0, s1, s2⟩
              go_simp
              with_reducible rfl
             rotate_left
             ·
              simp only [Act.put, List.setIfInBounds_toArray, List.set_cons_zero, List.set_cons_succ, i64_w, i32_w]
              rfl
             refine pure_ (i := 9) (N := some 39) (v := ?_) (a' := ?_) #[true, true, true, true, true, true, true, true, true, true, false, false, false] rfl rfl (any_of HT_.out (by kernel_rfl)) (fun _ _ _ h => h) (Or.inl ⟨by rfl, ?_⟩) ?_ ?_
             rotate_left
             ·
              intro w'
              go_simp
              with_reducible rfl
             rotate_left
             ·
              simp only [Act.put, List.setIfInBounds_toArray, List.set_cons_zero, List.set_cons_succ, i64_w, i32_w]
              rfl
             refine one_ (i := 10) (N := some 40) #[true, true, true, true, true, true, true, true, true, true, true, false, false] rfl rfl (one_of HT_.out (by kernel_rfl)) (by decide) (fun K hK => ?_)
             refine value_ (w1 := ?_) (v := ?_) (by rfl) rfl ?_ ?_
             rotate_left 2
             ·
              go_simp
              constructor
              ·
               rfl
              ·
               rfl
             refine hK.out _ _ ⟨(World.cell?_alloc_lt _ _ _ (World.block_lt_of_cell? _ _ (((HB.out.cell (World.block_lt_of_cell? w _ hw317_0)).trans hw317_0)))).trans (((HB.out.cell (World.block_lt_of_cell? w _ hw317_0)).trans hw317_0)), (World.cell?_alloc_lt _ _ _ (World.block_lt_of_cell? _ _ (((HB.out.cell (World.block_lt_of_cell? w _ hw317_1)).trans hw317_1)))).trans (((HB.out.cell (World.block_lt_of_cell? w _ hw317_1)).trans hw317_1)), (World.cell?_alloc_lt _ _ _ (World.block_lt_of_cell? _ _ (((HB.out.cell (World.block_lt_of_cell? w _ hw318_0)).trans hw318_0)))).trans (((HB.out.cell (World.block_lt_of_cell? w _ hw318_0)).trans hw318_0))⟩ (fun hHeld => ?_)
             clear hK K
             refine norm_ (a' := ?_) ?_ ?_
             rotate_left
             ·
              show Act.put _ (some 40) _ = _
              simp only [Act.put, List.setIfInBounds_toArray, List.set_cons_zero, List.set_cons_succ, i64_w, i32_w]
              rfl
             refine one_ (i := 11) (N := some 41) #[true, true, true, true, true, true, true, true, true, true, true, true, false] rfl rfl (one_of HT_.out (by kernel_rfl)) (by decide) (fun K hK => ?_)
             refine Kd.R_append_step k106 (w0 := w) w.heap.size (by rfl) (.tmp 30) (.tmp 40) 103 106 (.agg #[(.int .i64 0), (.int .i64 0), (.bool false)]) 24 rfl Try.underlying103 info106 rfl (by decide) (by omega) u6 x6_1 (⟨(⟨(rd_T52 l0 x8_1).f0, (rd_T52 l0 x8_1).f1⟩ : S52), rdOf false l1 x8_1⟩ : S106) [.int .i64 ((rd_T52 l0 x8_1).f0), .int .i64 ((rd_T52 l0 x8_1).f1), .bool (rdOf false l1 x8_1)] (fun _ => True) (fun _ => False) rfl rfl ?aP (fun _ hk => hk.elim) ?aF ?aO ?aB ?aS ?aL ?_
             (case aP => exact k106_mkM _ _ _ (⟨(⟨(rd_T52 l0 x8_1).f0, (rd_T52 l0 x8_1).f1⟩ : S52), rdOf false l1 x8_1⟩ : S106))
             (case aB => exact (by repeat (first | (with_reducible first | exact HB.out | apply bA | apply bN | apply bD) | exact HB.out)))
             (case aF => exact (fun _ _ => trivial))
             (case aO => exact (by (with_reducible repeat (first | apply Kd.R_alloc | apply Kd.R_drewN | apply Kd.R_drew)); exact HO_6.out))
             (case aS => exact (below_size (by repeat (first | (with_reducible first | exact HB.out | apply bA | apply bN | apply bD) | exact HB.out))))
             (case aL => have := LMc17.out; omega)
             intro v320 w21 ho hb hg hat
             rw [← Ny319.out] at ho
             have n0_ := aM (hb)
             have n1_ := aM (ho)
             clear HB
             clear HO_6
             have HB := n0_
             have HO321 := n1_
             clear n0_ n1_
             clear ho hb hg hat
             refine hK.out _ _ ⟨((HB.out.cell (World.block_lt_of_cell? w _ hw317_0)).trans hw317_0), ((HB.out.cell (World.block_lt_of_cell? w _ hw317_1)).trans hw317_1), ((HB.out.cell (World.block_lt_of_cell? w _ hw318_0)).trans hw318_0)⟩ (fun hHeld => ?_)
             clear hK K
             refine norm_ (a' := ?_) ?_ ?_
             rotate_left
             ·
              show Act.put _ (some 41) _ = _
              simp only [Act.put, List.setIfInBounds_toArray, List.set_cons_zero, List.set_cons_succ, i64_w, i32_w]
              rfl
             refine pure_ (i := 12) (N := some 6) (v := ?_) (a' := ?_) #[true, true, true, true, true, true, true, true, true, true, true, true, true] rfl rfl (any_of HT_.out (by kernel_rfl)) (fun _ _ _ h => h) (Or.inl ⟨by rfl, ?_⟩) ?_ ?_
             rotate_left
             ·
              intro w'
              go_simp
              with_reducible rfl
             rotate_left
             ·
              simp only [Act.put, List.setIfInBounds_toArray, List.set_cons_zero, List.set_cons_succ, i64_w, i32_w]
              rfl
             refine done_ (done_of HT_.out (by kernel_rfl)) ?_
             clear hHeld
             go_upto_region 11 with (fail)
             go_cut [57] (fun v57 wc => ∃ (kq : Nat) (x57_18 : Bool), v57 = .bool x57_18 ∧ Aside0 (fleuronref03_ring.j3 kq l0 l1 (l0.length : Int) y319 x7_10 x8_1 (Int.tmod (wrap64 (x8_1 + 1)) (l0.length : Int)) x57_18 = some r) ∧ Aside0 (kq ≤ kj10) ∧ Aside0 (Kd.R k106 106 wc w.heap.size (fun _ => True) v320 y319) ∧ Aside0 (Below w.heap.size w wc))
             case first =>
              have H := HC19.out
              clear HC19
              obtain ⟨bq22, hbq22⟩ : ∃ b_ : Bool, b_ = (rdOf false l1 x8_1) := ⟨_, rfl⟩
              replace H : (if bq22 = true then (fleuronref03_ring.j3 kj10 l0 l1 (l0.length : Int) y319 x7_10 x8_1 (Int.tmod (wrap64 (x8_1 + 1)) (l0.length : Int)) false) else (if 0 ≤ (Int.tmod (wrap64 (x8_1 + 1)) (l0.length : Int)) then (if (Int.tmod (wrap64 (x8_1 + 1)) (l0.length : Int)) < (l1.length : Int) then (fleuronref03_ring.j3 kj10 l0 l1 (l0.length : Int) y319 x7_10 x8_1 (Int.tmod (wrap64 (x8_1 + 1)) (l0.length : Int)) (!(rdOf false l1 (Int.tmod (wrap64 (x8_1 + 1)) (l0.length : Int))))) else (none)) else (none))) = some r := by rw [← hbq22] at H; exact H
              have Nbq22 := aM hbq22
              clear hbq22
              (try rw [← Nbq22.out])
              by_cases c23 : bq22 = true
              ·
               subst c23
               have H1 : (fleuronref03_ring.j3 kj10 l0 l1 (l0.length : Int) y319 x7_10 x8_1 (Int.tmod (wrap64 (x8_1 + 1)) (l0.length : Int)) false) = some r := by rw [if_pos rfl] at H; exact H
               clear H
               have H := H1
               clear H1
               have H' := aM H
               clear H
               have p322 : 0 ≤ (x8_1 : Int) := of_decide_eq_true (by assumption)
               have q322 : x8_1 < (l1.length : Int) := of_decide_eq_true (by assumption)
               obtain ⟨ad322, e322, hx322_0⟩ := Kd.at_bool HR1.out x8_1 p322 q322
               (try rw [← Nbq22.out] at hx322_0)
               obtain rfl : ad318 = ad322 := (by injection e322)
               replace hx322_0 := (HB.out.cell (World.block_lt_of_cell? w _ hx322_0)).trans hx322_0
               replace p322 := eq_true p322
               replace q322 := eq_true q322
               go_wp2
               go_meet
               case rel => exact ⟨_, (false), (by first | rfl | (simp; done) | (simp [*]; done)), H', ⟨by have := HK1.out; have := HJ5.out; have := HJ10.out; first | omega | exact Nat.le_refl _⟩, ⟨by (with_reducible repeat (first | apply Kd.R_alloc | apply Kd.R_drewN | apply Kd.R_drew)); exact HO321.out⟩, ⟨by repeat (first | (with_reducible first | exact HB.out | apply bA | apply bN | apply bD) | exact HB.out)⟩⟩
              ·
               replace c23 := Bool.eq_false_iff.mpr c23
               subst c23
               have H1 : (if 0 ≤ (Int.tmod (wrap64 (x8_1 + 1)) (l0.length : Int)) then (if (Int.tmod (wrap64 (x8_1 + 1)) (l0.length : Int)) < (l1.length : Int) then (fleuronref03_ring.j3 kj10 l0 l1 (l0.length : Int) y319 x7_10 x8_1 (Int.tmod (wrap64 (x8_1 + 1)) (l0.length : Int)) (!(rdOf false l1 (Int.tmod (wrap64 (x8_1 + 1)) (l0.length : Int))))) else (none)) else (none)) = some r := by rw [if_neg (show ¬ (false = true) by decide)] at H; exact H
               clear H
               have H := H1
               clear H1
               obtain ⟨ji24, hji24⟩ : ∃ j_ : Int, (Int.tmod (wrap64 (x8_1 + 1)) (l0.length : Int)) = j_ := ⟨_, rfl⟩
               replace H : (if 0 ≤ (ji24) then (if (ji24) < (l1.length : Int) then (fleuronref03_ring.j3 kj10 l0 l1 (l0.length : Int) y319 x7_10 x8_1 ji24 (!(rdOf false l1 (ji24)))) else (none)) else (none)) = some r := by first | (rw [hji24] at H; exact H) | (simp only [hji24] at H ⊢; exact H)
               by_cases c25 : 0 ≤ (ji24)
               ·
                rw [if_pos c25] at H
                have c25b0 : decide (0 ≤ (ji24)) = true := decide_eq_true c25
                clear c25
                by_cases c26 : (ji24) < (l1.length : Int)
                ·
                 rw [if_pos c26] at H
                 have c26b0 : decide ((ji24) < (l1.length : Int)) = true := decide_eq_true c26
                 clear c26
                 have H' := aM H
                 clear H
                 have p322 : 0 ≤ (x8_1 : Int) := of_decide_eq_true (by assumption)
                 have q322 : x8_1 < (l1.length : Int) := of_decide_eq_true (by assumption)
                 obtain ⟨ad322, e322, hx322_0⟩ := Kd.at_bool HR1.out x8_1 p322 q322
                 (try rw [← Nbq22.out] at hx322_0)
                 obtain rfl : ad318 = ad322 := (by injection e322)
                 replace hx322_0 := (HB.out.cell (World.block_lt_of_cell? w _ hx322_0)).trans hx322_0
                 replace p322 := eq_true p322
                 replace q322 := eq_true q322
                 have p323 : 0 ≤ ((ji24) : Int) := of_decide_eq_true (by assumption)
                 have q323 : (ji24) < (l1.length : Int) := of_decide_eq_true (by assumption)
                 obtain ⟨ad323, e323, hx323_0⟩ := Kd.at_bool HR1.out (ji24) p323 q323
                 (try rw [← Nbq22.out] at hx323_0)
                 obtain rfl : ad318 = ad323 := (by injection e323)
                 replace hx323_0 := (HB.out.cell (World.block_lt_of_cell? w _ hx323_0)).trans hx323_0
                 replace p323 := eq_true p323
                 replace q323 := eq_true q323
                 go_wp2
                 subst hji24
                 go_meet
                 case rel => exact ⟨_, (!(rdOf false l1 (Int.tmod (wrap64 (x8_1 + 1)) (l0.length : Int)))), (by first | rfl | (simp; done) | (simp only [← hji24] <;> (first | rfl | simp)) | (simp [*]; done)), H', ⟨by have := HK1.out; have := HJ5.out; have := HJ10.out; first | omega | exact Nat.le_refl _⟩, ⟨by (with_reducible repeat (first | apply Kd.R_alloc | apply Kd.R_drewN | apply Kd.R_drew)); exact HO321.out⟩, ⟨by repeat (first | (with_reducible first | exact HB.out | apply bA | apply bN | apply bD) | exact HB.out)⟩⟩
                ·
                 rw [if_neg c26] at H
                 exact absurd H (by simp)
               ·
                rw [if_neg c25] at H
                exact absurd H (by simp)
             case rest =>
              clear HC19
              try clear c1
              try clear c2
              try clear p2
              try clear q2
              try clear p3
              try clear q3
              try clear hx3
              try clear c5
              try clear c5b0
              try clear p6
              try clear c7
              try clear c7b0
              try clear c8
              try clear c8b0
              try clear q9
              try clear c10
              try clear c12
              try clear c14
              try clear c14b0
              try clear c15
              try clear c15b0
              try clear c16
              try clear c16b0
              try clear c17
              try clear c18
              try clear c18b0
              try clear c18b1
              try clear c18b2
              try clear q22
              try clear c23
              try clear c25
              try clear c25b0
              try clear c26
              try clear c26b0
              try clear hx316_0
              try clear hx317_0
              try clear hx317_1
              try clear hx318_0
              try clear hx322_0
              try clear hx323_0
              try clear p2
              try clear p3
              try clear p316
              try clear p317
              try clear p318
              try clear p322
              try clear p323
              try clear q3
              try clear q316
              try clear q317
              try clear q318
              try clear q322
              try clear q323
              try clear q9
              obtain ⟨kq, x57_18, rfl, HA, HJ18, HO_6, HB⟩ := hcut
              cases kq with
              | zero => exact absurd HA.out (by simp [fleuronref03_ring.j3])
              | succ kj18 =>
               have H := HA.out
               clear HA
               simp only [fleuronref03_ring.j3] at H
               by_cases c27 : x57_18 = true
               ·
                subst c27
                have H1 : (if 0 ≤ x8_1 then (if x8_1 < (l0.length : Int) then (if 0 ≤ (Int.tmod (wrap64 (x8_1 + 1)) (l0.length : Int)) then (if (Int.tmod (wrap64 (x8_1 + 1)) (l0.length : Int)) < (l0.length : Int) then ((fleuronref03_half.f (wrap64 (((rd_T52 l0 x8_1).f0) + ((rd_T52 l0 (Int.tmod (wrap64 (x8_1 + 1)) (l0.length : Int))).f0)))).bind fun t326 => ((fleuronref03_half.f (wrap64 (((rd_T52 l0 x8_1).f1) + ((rd_T52 l0 (Int.tmod (wrap64 (x8_1 + 1)) (l0.length : Int))).f1)))).bind fun t329 => (if y319.length < 5864062014805 then (fleuronref03_ring.l0 kj18 l0 l1 (l0.length : Int) (y319 ++ [(⟨(⟨t326, t329⟩ : S52), true⟩ : S106)]) x7_10 (wrap64 (x8_1 + 1))) else (none)))) else (none)) else (none)) else (none)) else (none)) = some r := by rw [if_pos rfl] at H; exact H
                clear H
                have H := H1
                clear H1
                by_cases c28 : 0 ≤ x8_1
                ·
                 rw [if_pos c28] at H
                 have c28b0 : decide (0 ≤ x8_1) = true := decide_eq_true c28
                 clear c28
                 by_cases c29 : x8_1 < (l0.length : Int)
                 ·
                  rw [if_pos c29] at H
                  have c29b0 : decide (x8_1 < (l0.length : Int)) = true := decide_eq_true c29
                  clear c29
                  obtain ⟨ji30, hji30⟩ : ∃ j_ : Int, (Int.tmod (wrap64 (x8_1 + 1)) (l0.length : Int)) = j_ := ⟨_, rfl⟩
                  replace H : (if 0 ≤ (ji30) then (if (ji30) < (l0.length : Int) then ((fleuronref03_half.f (wrap64 (((rd_T52 l0 x8_1).f0) + ((rd_T52 l0 (ji30)).f0)))).bind fun t326 => ((fleuronref03_half.f (wrap64 (((rd_T52 l0 x8_1).f1) + ((rd_T52 l0 (ji30)).f1)))).bind fun t329 => (if y319.length < 5864062014805 then (fleuronref03_ring.l0 kj18 l0 l1 (l0.length : Int) (y319 ++ [(⟨(⟨t326, t329⟩ : S52), true⟩ : S106)]) x7_10 (wrap64 (x8_1 + 1))) else (none)))) else (none)) else (none)) = some r := by first | (rw [hji30] at H; exact H) | (simp only [hji30] at H ⊢; exact H)
                  by_cases c31 : 0 ≤ (ji30)
                  ·
                   rw [if_pos c31] at H
                   have c31b0 : decide (0 ≤ (ji30)) = true := decide_eq_true c31
                   clear c31
                   by_cases c32 : (ji30) < (l0.length : Int)
                   ·
                    rw [if_pos c32] at H
                    have c32b0 : decide ((ji30) < (l0.length : Int)) = true := decide_eq_true c32
                    clear c32
                    replace H := Option.bind_eq_some_iff.mp H
                    obtain ⟨t326, A330, H⟩ := H
                    replace H : ((fleuronref03_half.f (wrap64 (((rd_T52 l0 x8_1).f1) + ((rd_T52 l0 (ji30)).f1)))).bind fun t329 => (if y319.length < 5864062014805 then (fleuronref03_ring.l0 kj18 l0 l1 (l0.length : Int) (y319 ++ [(⟨(⟨t326, t329⟩ : S52), true⟩ : S106)]) x7_10 (wrap64 (x8_1 + 1))) else (none))) = some r := H
                    have A33 := aM A330
                    clear A330
                    replace H := Option.bind_eq_some_iff.mp H
                    obtain ⟨t329, A340, H⟩ := H
                    replace H : (if y319.length < 5864062014805 then (fleuronref03_ring.l0 kj18 l0 l1 (l0.length : Int) (y319 ++ [(⟨(⟨t326, t329⟩ : S52), true⟩ : S106)]) x7_10 (wrap64 (x8_1 + 1))) else (none)) = some r := H
                    have A34 := aM A340
                    clear A340
                    by_cases c35 : y319.length < 5864062014805
                    ·
                     rw [if_pos c35] at H
                     have LMc35 := aM c35
                     clear c35
                     obtain ⟨y330, hy330⟩ : ∃ y_ : List (S106), y_ = (y319 ++ [(⟨(⟨t326, t329⟩ : S52), true⟩ : S106)]) := ⟨_, rfl⟩
                     replace H : (fleuronref03_ring.l0 kj18 l0 l1 (l0.length : Int) y330 x7_10 (wrap64 (x8_1 + 1))) = some r := by first | (rw [hy330]; with_reducible exact H) | (have H2_ := (Option.bind_some _ _).symm.trans H; rw [hy330]; with_reducible exact H2_) | (have H2_ := (Option.bind_some _ _).symm.trans H; with_reducible exact H2_) | with_reducible exact H | (rw [hy330]; exact H) | exact H
                     have Ny330 := aM hy330
                     clear hy330
                     have H' := aM H
                     clear H
                     try go_wp2
                     have n0_ := aM (Kd.R_drew HO_6.out)
                     have n1_ := aM (bD HB.out)
                     clear HO_6
                     clear HB
                     have HO_6 := n0_
                     have HB := n1_
                     clear n0_ n1_
                     have p324 : 0 ≤ (x8_1 : Int) := of_decide_eq_true (by assumption)
                     have q324 : x8_1 < (l0.length : Int) := of_decide_eq_true (by assumption)
                     obtain ⟨ad324, e324, hx324_0, hx324_1⟩ := at_T52 HR0.out x8_1 p324 q324
                     have hw324_1 := hx324_1
                     have hw324_0 := hx324_0
                     obtain rfl : ad317 = ad324 := (by injection e324)
                     replace hx324_0 := (HB.out.cell (World.block_lt_of_cell? w _ hx324_0)).trans hx324_0
                     replace hx324_1 := (HB.out.cell (World.block_lt_of_cell? w _ hx324_1)).trans hx324_1
                     replace p324 := eq_true p324
                     replace q324 := eq_true q324
                     have p325 : 0 ≤ ((ji30) : Int) := of_decide_eq_true (by assumption)
                     have q325 : (ji30) < (l0.length : Int) := of_decide_eq_true (by assumption)
                     obtain ⟨ad325, e325, hx325_0, hx325_1⟩ := at_T52 HR0.out (ji30) p325 q325
                     have hw325_1 := hx325_1
                     have hw325_0 := hx325_0
                     obtain rfl : ad317 = ad325 := (by injection e325)
                     replace hx325_0 := (HB.out.cell (World.block_lt_of_cell? w _ hx325_0)).trans hx325_0
                     replace hx325_1 := (HB.out.cell (World.block_lt_of_cell? w _ hx325_1)).trans hx325_1
                     replace p325 := eq_true p325
                     replace q325 := eq_true q325
                     have p327 : 0 ≤ (x8_1 : Int) := of_decide_eq_true (by assumption)
                     have q327 : x8_1 < (l0.length : Int) := of_decide_eq_true (by assumption)
                     obtain ⟨ad327, e327, hx327_0, hx327_1⟩ := at_T52 HR0.out x8_1 p327 q327
                     have hw327_1 := hx327_1
                     have hw327_0 := hx327_0
                     obtain rfl : ad317 = ad327 := (by injection e327)
                     replace hx327_0 := (HB.out.cell (World.block_lt_of_cell? w _ hx327_0)).trans hx327_0
                     replace hx327_1 := (HB.out.cell (World.block_lt_of_cell? w _ hx327_1)).trans hx327_1
                     replace p327 := eq_true p327
                     replace q327 := eq_true q327
                     have p328 : 0 ≤ ((ji30) : Int) := of_decide_eq_true (by assumption)
                     have q328 : (ji30) < (l0.length : Int) := of_decide_eq_true (by assumption)
                     obtain ⟨ad328, e328, hx328_0, hx328_1⟩ := at_T52 HR0.out (ji30) p328 q328
                     have hw328_1 := hx328_1
                     have hw328_0 := hx328_0
                     obtain rfl : ad317 = ad328 := (by injection e328)
                     replace hx328_0 := (HB.out.cell (World.block_lt_of_cell? w _ hx328_0)).trans hx328_0
                     replace hx328_1 := (HB.out.cell (World.block_lt_of_cell? w _ hx328_1)).trans hx328_1
                     replace p328 := eq_true p328
                     replace q328 := eq_true q328
                     refine start_ (n := 30) (S := fun w' => w'.cell? (ad317.add ((x8_1).toNat * 2)) = some (.int .i64 ((rd_T52 l0 x8_1).f0)) ∧ w'.cell? ⟨(ad317.add ((x8_1).toNat * 2)).block, (ad317.add ((x8_1).toNat * 2)).off + 1, none⟩ = some (.int .i64 ((rd_T52 l0 x8_1).f1)) ∧ w'.cell? (ad317.add (((ji30)).toNat * 2)) = some (.int .i64 ((rd_T52 l0 (ji30)).f0)) ∧ w'.cell? ⟨(ad317.add (((ji30)).toNat * 2)).block, (ad317.add (((ji30)).toNat * 2)).off + 1, none⟩ = some (.int .i64 ((rd_T52 l0 (ji30)).f1)) ∧ w'.cell? (ad317.add ((x8_1).toNat * 2)) = some (.int .i64 ((rd_T52 l0 x8_1).f0)) ∧ w'.cell? ⟨(ad317.add ((x8_1).toNat * 2)).block, (ad317.add ((x8_1).toNat * 2)).off + 1, none⟩ = some (.int .i64 ((rd_T52 l0 x8_1).f1)) ∧ w'.cell? (ad317.add (((ji30)).toNat * 2)) = some (.int .i64 ((rd_T52 l0 (ji30)).f0)) ∧ w'.cell? ⟨(ad317.add (((ji30)).toNat * 2)).block, (ad317.add (((ji30)).toNat * 2)).off + 1, none⟩ = some (.int .i64 ((rd_T52 l0 (ji30)).f1))) (ds := []) #[false, false, false, false, false, false, false, false, false, false, false, false, false, false, false, false, false, false, false, false, false, false, false, false, false, false, false, false, false, false] (by kernel_rfl) rfl rfl ⟨((HB.out.cell (World.block_lt_of_cell? w _ hw324_0)).trans hw324_0), ((HB.out.cell (World.block_lt_of_cell? w _ hw324_1)).trans hw324_1), ((HB.out.cell (World.block_lt_of_cell? w _ hw325_0)).trans hw325_0), ((HB.out.cell (World.block_lt_of_cell? w _ hw325_1)).trans hw325_1), ((HB.out.cell (World.block_lt_of_cell? w _ hw327_0)).trans hw327_0), ((HB.out.cell (World.block_lt_of_cell? w _ hw327_1)).trans hw327_1), ((HB.out.cell (World.block_lt_of_cell? w _ hw328_0)).trans hw328_0), ((HB.out.cell (World.block_lt_of_cell? w _ hw328_1)).trans hw328_1)⟩ (fun hHeld => ?_); refine with_tabW fleuronref03_ring.tab12 fleuronref03_ring.bits12 (fun HT_ HW_ => ?_)
                     generalize wc.drew = w36 at HO_6 HB hx324_0 hx324_1 hx325_0 hx325_1 hx327_0 hx327_1 hx328_0 hx328_1 hHeld ⊢
                     refine pure_ (i := 0) (N := some 58) (v := ?_) (a' := ?_) #[true, false, false, false, false, false, false, false, false, false, false, false, false, false, false, false, false, false, false, false, false, false, false, false, false, false, false, false, false, false] rfl rfl (any_of HT_.out (by kernel_rfl)) (fun _ _ _ h => h) (Or.inl ⟨by rfl, ?_⟩) ?_ ?_
                     rotate_left
                     ·
                      intro w'
                      go_simp
                      with_reducible rfl
                     rotate_left
                     ·
                      simp only [Act.put, List.setIfInBounds_toArray, List.set_cons_zero, List.set_cons_succ, i64_w, i32_w]
                      rfl
                     refine pure_ (i := 1) (N := some 59) (v := ?_) (a' := ?_) #[true, true, false, false, false, false, false, false, false, false, false, false, false, false, false, false, false, false, false, false, false, false, false, false, false, false, false, false, false, false] rfl rfl (any_of HT_.out (by kernel_rfl)) (fun _ _ _ h => h) (Or.inl ⟨by rfl, ?_⟩) ?_ ?_
                     rotate_left
                     ·
                      intro w'
                      go_simp
                      with_reducible rfl
                     rotate_left
                     ·
                      simp only [Act.put, List.setIfInBounds_toArray, List.set_cons_zero, List.set_cons_succ, i64_w, i32_w]
                      rfl
                     refine pure_ (i := 2) (N := some 60) (v := ?_) (a' := ?_) #[true, true, true, false, false, false, false, false, false, false, false, false, false, false, false, false, false, false, false, false, false, false, false, false, false, false, false, false, false, false] rfl rfl (any_of HT_.out (by kernel_rfl)) (fun _ _ _ h => h) (Or.inl ⟨by rfl, ?_⟩) ?_ ?_
                     rotate_left
                     ·
                      intro w'
                      go_simp
                      with_reducible rfl
                     rotate_left
                     ·
                      simp only [Act.put, List.setIfInBounds_toArray, List.set_cons_zero, List.set_cons_succ, i64_w, i32_w]
                      rfl
                     refine pure_ (i := 3) (N := some 61) (v := ?_) (a' := ?_) #[true, true, true, true, false, false, false, false, false, false, false, false, false, false, false, false, false, false, false, false, false, false, false, false, false, false, false, false, false, false] rfl rfl (any_of HT_.out (by kernel_rfl)) (fun _ _ _ h => h) (Or.inl ⟨by rfl, ?_⟩) ?_ ?_
                     rotate_left
                     ·
                      intro w'
                      go_simp
                      with_reducible rfl
                     rotate_left
                     ·
                      simp only [Act.put, List.setIfInBounds_toArray, List.set_cons_zero, List.set_cons_succ, i64_w, i32_w]
                      rfl
                     refine pure_ (i := 4) (N := some 62) (v := ?_) (a' := ?_) #[true, true, true, true, true, false, false, false, false, false, false, false, false, false, false, false, false, false, false, false, false, false, false, false, false, false, false, false, false, false] rfl rfl (any_of HT_.out (by kernel_rfl)) (fun _ _ _ h => h) (Or.inl ⟨by rfl, ?_⟩) ?_ ?_
                     rotate_left
                     ·
                      intro w'
                      go_simp
                      with_reducible rfl
                     rotate_left
                     ·
                      simp only [Act.put, List.setIfInBounds_toArray, List.set_cons_zero, List.set_cons_succ, i64_w, i32_w]
                      rfl
                     refine pure_ (i := 6) (N := some 64) (v := ?_) (a' := ?_) #[true, true, true, true, true, false, true, false, false, false, false, false, false, false, false, false, false, false, false, false, false, false, false, false, false, false, false, false, false, false] rfl rfl (any_of HT_.out (by kernel_rfl)) (fun _ _ _ h => h) (Or.inl ⟨by rfl, ?_⟩) ?_ ?_
                     rotate_left
                     ·
                      intro w'
                      go_simp
                      with_reducible rfl
                     rotate_left
                     ·
                      simp only [Act.put, List.setIfInBounds_toArray, List.set_cons_zero, List.set_cons_succ, i64_w, i32_w]
                      rfl
                     refine pure_ (i := 7) (N := some 65) (v := ?_) (a' := ?_) #[true, true, true, true, true, false, true, true, false, false, false, false, false, false, false, false, false, false, false, false, false, false, false, false, false, false, false, false, false, false] rfl rfl (any_of HT_.out (by kernel_rfl)) (fun _ _ _ h => h) (Or.inl ⟨by rfl, ?_⟩) ?_ ?_
                     rotate_left
                     ·
                      intro w'
                      go_simp
                      with_reducible rfl
                     rotate_left
                     ·
                      simp only [Act.put, List.setIfInBounds_toArray, List.set_cons_zero, List.set_cons_succ, i64_w, i32_w]
                      rfl
                     refine pure_ (i := 8) (N := some 66) (v := ?_) (a' := ?_) #[true, true, true, true, true, false, true, true, true, false, false, false, false, false, false, false, false, false, false, false, false, false, false, false, false, false, false, false, false, false] rfl rfl (any_of HT_.out (by kernel_rfl)) (fun _ _ _ h => h) (Or.inl ⟨by rfl, ?_⟩) ?_ ?_
                     rotate_left
                     ·
                      intro w'
                      go_simp
                      with_reducible rfl
                     rotate_left
                     ·
                      simp only [Act.put, List.setIfInBounds_toArray, List.set_cons_zero, List.set_cons_succ, i64_w, i32_w]
                      rfl
                     refine pure_ (i := 9) (N := some 67) (v := ?_) (a' := ?_) #[true, true, true, true, true, false, true, true, true, true, false, false, false, false, false, false, false, false, false, false, false, false, false, false, false, false, false, false, false, false] rfl rfl (any_of HT_.out (by kernel_rfl)) (fun _ _ _ h => h) (Or.inl ⟨by rfl, ?_⟩) ?_ ?_
                     rotate_left
                     ·
                      intro w'
                      go_simp
                      with_reducible rfl
                     rotate_left
                     ·
                      simp only [Act.put, List.setIfInBounds_toArray, List.set_cons_zero, List.set_cons_succ, i64_w, i32_w]
                      rfl
                     refine pure_ (i := 13) (N := some 71) (v := ?_) (a' := ?_) #[true, true, true, true, true, false, true, true, true, true, false, false, false, true, false, false, false, false, false, false, false, false, false, false, false, false, false, false, false, false] rfl rfl (any_of HT_.out (by kernel_rfl)) (fun _ _ _ h => h) (Or.inl ⟨by rfl, ?_⟩) ?_ ?_
                     rotate_left
                     ·
                      intro w'
                      go_simp
                      with_reducible rfl
                     rotate_left
                     ·
                      simp only [Act.put, List.setIfInBounds_toArray, List.set_cons_zero, List.set_cons_succ, i64_w, i32_w]
                      rfl
                     refine pure_ (i := 14) (N := some 72) (v := ?_) (a' := ?_) #[true, true, true, true, true, false, true, true, true, true, false, false, false, true, true, false, false, false, false, false, false, false, false, false, false, false, false, false, false, false] rfl rfl (any_of HT_.out (by kernel_rfl)) (fun _ _ _ h => h) (Or.inl ⟨by rfl, ?_⟩) ?_ ?_
                     rotate_left
                     ·
                      intro w'
                      go_simp
                      with_reducible rfl
                     rotate_left
                     ·
                      simp only [Act.put, List.setIfInBounds_toArray, List.set_cons_zero, List.set_cons_succ, i64_w, i32_w]
                      rfl
                     refine pure_ (i := 15) (N := some 73) (v := ?_) (a' := ?_) #[true, true, true, true, true, false, true, true, true, true, false, false, false, true, true, true, false, false, false, false, false, false, false, false, false, false, false, false, false, false] rfl rfl (any_of HT_.out (by kernel_rfl)) (fun _ _ _ h => h) (Or.inl ⟨by rfl, ?_⟩) ?_ ?_
                     rotate_left
                     ·
                      intro w'
                      go_simp
                      with_reducible rfl
                     rotate_left
                     ·
                      simp only [Act.put, List.setIfInBounds_toArray, List.set_cons_zero, List.set_cons_succ, i64_w, i32_w]
                      rfl
                     refine pure_ (i := 16) (N := some 74) (v := ?_) (a' := ?_) #[true, true, true, true, true, false, true, true, true, true, false, false, false, true, true, true, true, false, false, false, false, false, false, false, false, false, false, false, false, false] rfl rfl (any_of HT_.out (by kernel_rfl)) (fun _ _ _ h => h) (Or.inl ⟨by rfl, ?_⟩) ?_ ?_
                     rotate_left
                     ·
                      intro w'
                      go_simp
                      with_reducible rfl
                     rotate_left
                     ·
                      simp only [Act.put, List.setIfInBounds_toArray, List.set_cons_zero, List.set_cons_succ, i64_w, i32_w]
                      rfl
                     refine pure_ (i := 18) (N := some 76) (v := ?_) (a' := ?_) #[true, true, true, true, true, false, true, true, true, true, false, false, false, true, true, true, true, false, true, false, false, false, false, false, false, false, false, false, false, false] rfl rfl (any_of HT_.out (by kernel_rfl)) (fun _ _ _ h => h) (Or.inl ⟨by rfl, ?_⟩) ?_ ?_
                     rotate_left
                     ·
                      intro w'
                      go_simp
                      with_reducible rfl
                     rotate_left
                     ·
                      simp only [Act.put, List.setIfInBounds_toArray, List.set_cons_zero, List.set_cons_succ, i64_w, i32_w]
                      rfl
                     refine pure_ (i := 19) (N := some 77) (v := ?_) (a' := ?_) #[true, true, true, true, true, false, true, true, true, true, false, false, false, true, true, true, true, false, true, true, false, false, false, false, false, false, false, false, false, false] rfl rfl (any_of HT_.out (by kernel_rfl)) (fun _ _ _ h => h) (Or.inl ⟨by rfl, ?_⟩) ?_ ?_
                     rotate_left
                     ·
                      intro w'
                      go_simp
                      with_reducible rfl
                     rotate_left
                     ·
                      simp only [Act.put, List.setIfInBounds_toArray, List.set_cons_zero, List.set_cons_succ, i64_w, i32_w]
                      rfl
                     refine pure_ (i := 20) (N := some 78) (v := ?_) (a' := ?_) #[true, true, true, true, true, false, true, true, true, true, false, false, false, true, true, true, true, false, true, true, true, false, false, false, false, false, false, false, false, false] rfl rfl (any_of HT_.out (by kernel_rfl)) (fun _ _ _ h => h) (Or.inl ⟨by rfl, ?_⟩) ?_ ?_
                     rotate_left
                     ·
                      intro w'
                      go_simp
                      with_reducible rfl
                     rotate_left
                     ·
                      simp only [Act.put, List.setIfInBounds_toArray, List.set_cons_zero, List.set_cons_succ, i64_w, i32_w]
                      rfl
                     refine pure_ (i := 21) (N := some 79) (v := ?_) (a' := ?_) #[true, true, true, true, true, false, true, true, true, true, false, false, false, true, true, true, true, false, true, true, true, true, false, false, false, false, false, false, false, false] rfl rfl (any_of HT_.out (by kernel_rfl)) (fun _ _ _ h => h) (Or.inl ⟨by rfl, ?_⟩) ?_ ?_
                     rotate_left
                     ·
                      intro w'
                      go_simp
                      with_reducible rfl
                     rotate_left
                     ·
                      simp only [Act.put, List.setIfInBounds_toArray, List.set_cons_zero, List.set_cons_succ, i64_w, i32_w]
                      rfl
                     refine take_ (i := 5) (N := some 63) (v := ?_) (a' := ?_) #[true, true, true, true, true, true, true, true, true, true, false, false, false, true, true, true, true, false, true, true, true, true, false, false, false, false, false, false, false, false] rfl rfl (take_ofW HT_.out HW_.out (by kernel_rfl)) (fun _ _ _ h => h) (Or.inl ⟨by rfl, ?_⟩) hHeld ?_ ?_
                     rotate_left
                     ·
                      rintro w' ⟨s0, s1, s2, s3, s4, s5, s6, s7⟩
                      go_simp
                      with_reducible rfl
                     rotate_left
                     ·
                      simp only [Act.put, List.setIfInBounds_toArray, List.set_cons_zero, List.set_cons_succ, i64_w, i32_w]
                      rfl
                     refine take_ (i := 10) (N := some 68) (v := ?_) (a' := ?_) #[true, true, true, true, true, true, true, true, true, true, true, false, false, true, true, true, true, false, true, true, true, true, false, false, false, false, false, false, false, false] rfl rfl (take_ofW HT_.out HW_.out (by kernel_rfl)) (fun _ _ _ h => h) (Or.inl ⟨by rfl, ?_⟩) hHeld ?_ ?_
                     rotate_left
                     ·
                      rintro w' ⟨s0, s1, s2, s3, s4, s5, s6, s7⟩
                      go_simp
                      with_reducible rfl
                     rotate_left
                     ·
                      simp only [Act.put, List.setIfInBounds_toArray, List.set_cons_zero, List.set_cons_succ, i64_w, i32_w]
                      rfl
                     refine pure_ (i := 11) (N := some 69) (v := ?_) (a' := ?_) #[true, true, true, true, true, true, true, true, true, true, true, true, false, true, true, true, true, false, true, true, true, true, false, false, false, false, false, false, false, false] rfl rfl (any_of HT_.out (by kernel_rfl)) (fun _ _ _ h => h) (Or.inl ⟨by rfl, ?_⟩) ?_ ?_
                     rotate_left
                     ·
                      intro w'
                      go_simp
                      with_reducible rfl
                     rotate_left
                     ·
                      simp only [Act.put, List.setIfInBounds_toArray, List.set_cons_zero, List.set_cons_succ, i64_w, i32_w]
                      rfl
                     refine take_ (i := 17) (N := some 75) (v := ?_) (a' := ?_) #[true, true, true, true, true, true, true, true, true, true, true, true, false, true, true, true, true, true, true, true, true, true, false, false, false, false, false, false, false, false] rfl rfl (take_ofW HT_.out HW_.out (by kernel_rfl)) (fun _ _ _ h => h) (Or.inl ⟨by rfl, ?_⟩) hHeld ?_ ?_
                     rotate_left
                     ·
                      rintro w' ⟨s0, s1, s2, s3, s4, s5, s6, s7⟩
                      go_simp
                      with_reducible rfl
                     rotate_left
                     ·
                      simp only [Act.put, List.setIfInBounds_toArray, List.set_cons_zero, List.set_cons_succ, i64_w, i32_w]
                      rfl
                     refine take_ (i := 22) (N := some 80) (v := ?_) (a' := ?_) #[true, true, true, true, true, true, true, true, true, true, true, true, false, true, true, true, true, true, true, true, true, true, true, false, false, false, false, false, false, false] rfl rfl (take_ofW HT_.out HW_.out (by kernel_rfl)) (fun _ _ _ h => h) (Or.inl ⟨by rfl, ?_⟩) hHeld ?_ ?_
                     rotate_left
                     ·
                      rintro w' ⟨s0, s1, s2, s3, s4, s5, s6, s7⟩
                      go_simp
                      with_reducible rfl
                     rotate_left
                     ·
                      simp only [Act.put, List.setIfInBounds_toArray, List.set_cons_zero, List.set_cons_succ, i64_w, i32_w]
                      rfl
                     refine pure_ (i := 23) (N := some 81) (v := ?_) (a' := ?_) #[true, true, true, true, true, true, true, true, true, true, true, true, false, true, true, true, true, true, true, true, true, true, true, true, false, false, false, false, false, false] rfl rfl (any_of HT_.out (by kernel_rfl)) (fun _ _ _ h => h) (Or.inl ⟨by rfl, ?_⟩) ?_ ?_
                     rotate_left
                     ·
                      intro w'
                      go_simp
                      with_reducible rfl
                     rotate_left
                     ·
                      simp only [Act.put, List.setIfInBounds_toArray, List.set_cons_zero, List.set_cons_succ, i64_w, i32_w]
                      rfl
                     refine one_ (i := 12) (N := some 70) #[true, true, true, true, true, true, true, true, true, true, true, true, true, true, true, true, true, true, true, true, true, true, true, true, false, false, false, false, false, false] rfl rfl (one_of HT_.out (by kernel_rfl)) (by decide) (fun K hK => ?_)
                     refine goes_ Try.func66 (by kernel_rfl) rfl #[.int .i64 (wrap64 (((rd_T52 l0 x8_1).f0) + ((rd_T52 l0 (ji30)).f0)))] (by rfl) rfl rfl (by (try simp only [List.map_toArray, List.map_cons, List.map_nil]); first | done | (simp only [hji30]; rfl) | rfl | (simp only [List.length_drop, List.length_take]; rfl)) ?_
                     with_reducible refine (fleuronref03_half.calls (wrap64 (((rd_T52 l0 x8_1).f0) + ((rd_T52 l0 (ji30)).f0))) t326 _ A33.out).mono ?_
                     rintro e w' ⟨rfl, ⟨nd, rfl⟩⟩
                     refine ⟨_, rfl, ?_⟩
                     refine hK.out _ _ ⟨((HB.out.cell (World.block_lt_of_cell? w _ hw324_0)).trans hw324_0), ((HB.out.cell (World.block_lt_of_cell? w _ hw324_1)).trans hw324_1), ((HB.out.cell (World.block_lt_of_cell? w _ hw325_0)).trans hw325_0), ((HB.out.cell (World.block_lt_of_cell? w _ hw325_1)).trans hw325_1), ((HB.out.cell (World.block_lt_of_cell? w _ hw327_0)).trans hw327_0), ((HB.out.cell (World.block_lt_of_cell? w _ hw327_1)).trans hw327_1), ((HB.out.cell (World.block_lt_of_cell? w _ hw328_0)).trans hw328_0), ((HB.out.cell (World.block_lt_of_cell? w _ hw328_1)).trans hw328_1)⟩ (fun hHeld => ?_)
                     clear hK K
                     refine norm_ (a' := ?_) ?_ ?_
                     rotate_left
                     ·
                      show Act.put _ (some 70) _ = _
                      simp only [Act.put, List.setIfInBounds_toArray, List.set_cons_zero, List.set_cons_succ, i64_w, i32_w]
                      rfl
                     refine one_ (i := 24) (N := some 82) #[true, true, true, true, true, true, true, true, true, true, true, true, true, true, true, true, true, true, true, true, true, true, true, true, true, false, false, false, false, false] rfl rfl (one_of HT_.out (by kernel_rfl)) (by decide) (fun K hK => ?_)
                     refine goes_ Try.func66 (by kernel_rfl) rfl #[.int .i64 (wrap64 (((rd_T52 l0 x8_1).f1) + ((rd_T52 l0 (ji30)).f1)))] (by rfl) rfl rfl (by (try simp only [List.map_toArray, List.map_cons, List.map_nil]); first | done | (simp only [hji30]; rfl) | rfl | (simp only [List.length_drop, List.length_take]; rfl)) ?_
                     with_reducible refine (fleuronref03_half.calls (wrap64 (((rd_T52 l0 x8_1).f1) + ((rd_T52 l0 (ji30)).f1))) t329 _ A34.out).mono ?_
                     rintro e w' ⟨rfl, ⟨nd, rfl⟩⟩
                     refine ⟨_, rfl, ?_⟩
                     refine hK.out _ _ ⟨((HB.out.cell (World.block_lt_of_cell? w _ hw324_0)).trans hw324_0), ((HB.out.cell (World.block_lt_of_cell? w _ hw324_1)).trans hw324_1), ((HB.out.cell (World.block_lt_of_cell? w _ hw325_0)).trans hw325_0), ((HB.out.cell (World.block_lt_of_cell? w _ hw325_1)).trans hw325_1), ((HB.out.cell (World.block_lt_of_cell? w _ hw327_0)).trans hw327_0), ((HB.out.cell (World.block_lt_of_cell? w _ hw327_1)).trans hw327_1), ((HB.out.cell (World.block_lt_of_cell? w _ hw328_0)).trans hw328_0), ((HB.out.cell (World.block_lt_of_cell? w _ hw328_1)).trans hw328_1)⟩ (fun hHeld => ?_)
                     clear hK K
                     refine norm_ (a' := ?_) ?_ ?_
                     rotate_left
                     ·
                      show Act.put _ (some 82) _ = _
                      simp only [Act.put, List.setIfInBounds_toArray, List.set_cons_zero, List.set_cons_succ, i64_w, i32_w]
                      rfl
                     refine pure_ (i := 25) (N := some 83) (v := ?_) (a' := ?_) #[true, true, true, true, true, true, true, true, true, true, true, true, true, true, true, true, true, true, true, true, true, true, true, true, true, true, false, false, false, false] rfl rfl (any_of HT_.out (by kernel_rfl)) (fun _ _ _ h => h) (Or.inl ⟨by rfl, ?_⟩) ?_ ?_
                     rotate_left
                     ·
                      intro w'
                      go_simp
                      with_reducible rfl
                     rotate_left
                     ·
                      simp only [Act.put, List.setIfInBounds_toArray, List.set_cons_zero, List.set_cons_succ, i64_w, i32_w]
                      rfl
                     refine pure_ (i := 26) (N := some 84) (v := ?_) (a' := ?_) #[true, true, true, true, true, true, true, true, true, true, true, true, true, true, true, true, true, true, true, true, true, true, true, true, true, true, true, false, false, false] rfl rfl (any_of HT_.out (by kernel_rfl)) (fun _ _ _ h => h) (Or.inl ⟨by rfl, ?_⟩) ?_ ?_
                     rotate_left
                     ·
                      intro w'
                      go_simp
                      with_reducible rfl
                     rotate_left
                     ·
                      simp only [Act.put, List.setIfInBounds_toArray, List.set_cons_zero, List.set_cons_succ, i64_w, i32_w]
                      rfl
                     refine one_ (i := 27) (N := some 85) #[true, true, true, true, true, true, true, true, true, true, true, true, true, true, true, true, true, true, true, true, true, true, true, true, true, true, true, true, false, false] rfl rfl (one_of HT_.out (by kernel_rfl)) (by decide) (fun K hK => ?_)
                     refine value_ (w1 := ?_) (v := ?_) (by rfl) rfl ?_ ?_
                     rotate_left 2
                     ·
                      go_simp
                      constructor
                      ·
                       rfl
                      ·
                       rfl
                     refine hK.out _ _ ⟨(World.cell?_alloc_lt _ _ _ (World.block_lt_of_cell? _ _ (((HB.out.cell (World.block_lt_of_cell? w _ hw324_0)).trans hw324_0)))).trans (((HB.out.cell (World.block_lt_of_cell? w _ hw324_0)).trans hw324_0)), (World.cell?_alloc_lt _ _ _ (World.block_lt_of_cell? _ _ (((HB.out.cell (World.block_lt_of_cell? w _ hw324_1)).trans hw324_1)))).trans (((HB.out.cell (World.block_lt_of_cell? w _ hw324_1)).trans hw324_1)), (World.cell?_alloc_lt _ _ _ (World.block_lt_of_cell? _ _ (((HB.out.cell (World.block_lt_of_cell? w _ hw325_0)).trans hw325_0)))).trans (((HB.out.cell (World.block_lt_of_cell? w _ hw325_0)).trans hw325_0)), (World.cell?_alloc_lt _ _ _ (World.block_lt_of_cell? _ _ (((HB.out.cell (World.block_lt_of_cell? w _ hw325_1)).trans hw325_1)))).trans (((HB.out.cell (World.block_lt_of_cell? w _ hw325_1)).trans hw325_1)), (World.cell?_alloc_lt _ _ _ (World.block_lt_of_cell? _ _ (((HB.out.cell (World.block_lt_of_cell? w _ hw327_0)).trans hw327_0)))).trans (((HB.out.cell (World.block_lt_of_cell? w _ hw327_0)).trans hw327_0)), (World.cell?_alloc_lt _ _ _ (World.block_lt_of_cell? _ _ (((HB.out.cell (World.block_lt_of_cell? w _ hw327_1)).trans hw327_1)))).trans (((HB.out.cell (World.block_lt_of_cell? w _ hw327_1)).trans hw327_1)), (World.cell?_alloc_lt _ _ _ (World.block_lt_of_cell? _ _ (((HB.out.cell (World.block_lt_of_cell? w _ hw328_0)).trans hw328_0)))).trans (((HB.out.cell (World.block_lt_of_cell? w _ hw328_0)).trans hw328_0)), (World.cell?_alloc_lt _ _ _ (World.block_lt_of_cell? _ _ (((HB.out.cell (World.block_lt_of_cell? w _ hw328_1)).trans hw328_1)))).trans (((HB.out.cell (World.block_lt_of_cell? w _ hw328_1)).trans hw328_1))⟩ (fun hHeld => ?_)
                     clear hK K
                     refine norm_ (a' := ?_) ?_ ?_
                     rotate_left
                     ·
                      show Act.put _ (some 85) _ = _
                      simp only [Act.put, List.setIfInBounds_toArray, List.set_cons_zero, List.set_cons_succ, i64_w, i32_w]
                      rfl
                     refine one_ (i := 28) (N := some 86) #[true, true, true, true, true, true, true, true, true, true, true, true, true, true, true, true, true, true, true, true, true, true, true, true, true, true, true, true, true, false] rfl rfl (one_of HT_.out (by kernel_rfl)) (by decide) (fun K hK => ?_)
                     refine Kd.R_append_step k106 (w0 := w) w.heap.size (by rfl) (.tmp 58) (.tmp 85) 103 106 (.agg #[(.int .i64 0), (.int .i64 0), (.bool false)]) 24 rfl Try.underlying103 info106 rfl (by decide) (by omega) v320 y319 (⟨(⟨t326, t329⟩ : S52), true⟩ : S106) [.int .i64 t326, .int .i64 t329, .bool true] (fun _ => True) (fun _ => False) rfl rfl ?aP (fun _ hk => hk.elim) ?aF ?aO ?aB ?aS ?aL ?_
                     (case aP => exact k106_mkM _ _ _ (⟨(⟨t326, t329⟩ : S52), true⟩ : S106))
                     (case aB => exact (by repeat (first | (with_reducible first | exact HB.out | apply bA | apply bN | apply bD) | exact HB.out)))
                     (case aF => exact (fun _ _ => trivial))
                     (case aO => exact (by (with_reducible repeat (first | apply Kd.R_alloc | apply Kd.R_drewN | apply Kd.R_drew)); exact HO_6.out))
                     (case aS => exact (below_size (by repeat (first | (with_reducible first | exact HB.out | apply bA | apply bN | apply bD) | exact HB.out))))
                     (case aL => have := LMc35.out; omega)
                     intro v331 w37 ho hb hg hat
                     rw [← Ny330.out] at ho
                     have n0_ := aM (hb)
                     have n1_ := aM (ho)
                     clear HB
                     clear HO_6
                     have HB := n0_
                     have HO332 := n1_
                     clear n0_ n1_
                     clear ho hb hg hat
                     refine hK.out _ _ ⟨((HB.out.cell (World.block_lt_of_cell? w _ hw324_0)).trans hw324_0), ((HB.out.cell (World.block_lt_of_cell? w _ hw324_1)).trans hw324_1), ((HB.out.cell (World.block_lt_of_cell? w _ hw325_0)).trans hw325_0), ((HB.out.cell (World.block_lt_of_cell? w _ hw325_1)).trans hw325_1), ((HB.out.cell (World.block_lt_of_cell? w _ hw327_0)).trans hw327_0), ((HB.out.cell (World.block_lt_of_cell? w _ hw327_1)).trans hw327_1), ((HB.out.cell (World.block_lt_of_cell? w _ hw328_0)).trans hw328_0), ((HB.out.cell (World.block_lt_of_cell? w _ hw328_1)).trans hw328_1)⟩ (fun hHeld => ?_)
                     clear hK K
                     refine norm_ (a' := ?_) ?_ ?_
                     rotate_left
                     ·
                      show Act.put _ (some 86) _ = _
                      simp only [Act.put, List.setIfInBounds_toArray, List.set_cons_zero, List.set_cons_succ, i64_w, i32_w]
                      rfl
                     refine pure_ (i := 29) (N := some 6) (v := ?_) (a' := ?_) #[true, true, true, true, true, true, true, true, true, true, true, true, true, true, true, true, true, true, true, true, true, true, true, true, true, true, true, true, true, true] rfl rfl (any_of HT_.out (by kernel_rfl)) (fun _ _ _ h => h) (Or.inl ⟨by rfl, ?_⟩) ?_ ?_
                     rotate_left
                     ·
                      intro w'
                      go_simp
                      with_reducible rfl
                     rotate_left
                     ·
                      simp only [Act.put, List.setIfInBounds_toArray, List.set_cons_zero, List.set_cons_succ, i64_w, i32_w]
                      rfl
                     refine done_ (done_of HT_.out (by kernel_rfl)) ?_
                     try go_wp2
                     go_roundg kj18
                     case measure => have := HK1.out; have := HJ5.out; have := HJ10.out; have := HJ18.out; omega
                     case rel => exact ⟨(y330), (x7_10), (wrap64 (x8_1 + 1)), (by first | rfl | (simp; done) | (simp [*]; done)), (by first | rfl | (simp; done) | (simp [*]; done)), H', ⟨by have := HK1.out; have := HJ5.out; have := HJ10.out; have := HJ18.out; omega⟩, ⟨by (with_reducible repeat (first | apply Kd.R_alloc | apply Kd.R_drewN | apply Kd.R_drew)); exact HO332.out⟩, ⟨by repeat (first | (with_reducible first | exact HB.out | apply bA | apply bN | apply bD) | exact HB.out)⟩⟩
                    ·
                     rw [if_neg c35] at H
                     exact absurd H (by simp)
                   ·
                    rw [if_neg c32] at H
                    exact absurd H (by simp)
                  ·
                   rw [if_neg c31] at H
                   exact absurd H (by simp)
                 ·
                  rw [if_neg c29] at H
                  exact absurd H (by simp)
                ·
                 rw [if_neg c28] at H
                 exact absurd H (by simp)
               ·
                replace c27 := Bool.eq_false_iff.mpr c27
                subst c27
                have H1 : (fleuronref03_ring.l0 kj18 l0 l1 (l0.length : Int) y319 x7_10 (wrap64 (x8_1 + 1))) = some r := by rw [if_neg (show ¬ (false = true) by decide)] at H; exact H
                clear H
                have H := H1
                clear H1
                have H' := aM H
                clear H
                go_wp2
                go_roundg kj18
                case measure => have := HK1.out; have := HJ5.out; have := HJ10.out; have := HJ18.out; omega
                case rel => exact ⟨(y319), (x7_10), (wrap64 (x8_1 + 1)), (by first | rfl | (simp; done) | (simp [*]; done)), (by first | rfl | (simp; done) | (simp [*]; done)), H', ⟨by have := HK1.out; have := HJ5.out; have := HJ10.out; have := HJ18.out; omega⟩, ⟨by (with_reducible repeat (first | apply Kd.R_alloc | apply Kd.R_drewN | apply Kd.R_drew)); exact HO_6.out⟩, ⟨by repeat (first | (with_reducible first | exact HB.out | apply bA | apply bN | apply bD) | exact HB.out)⟩⟩
           ·
            rw [if_neg c17] at H
            exact absurd H (by simp)
          ·
           rw [if_neg c16] at H
           exact absurd H (by simp)
         ·
          rw [if_neg c15] at H
          exact absurd H (by simp)
        ·
         rw [if_neg c14] at H
         exact absurd H (by simp)
   ·
    rw [if_neg c5] at H
    have c5b0 : decide (x8_1 < (l0.length : Int)) = false := decide_eq_false c5
    clear c5
    have HC38 := aM H
    clear H
    go_upto_if 88 with (fail)
    go_cut [7] (fun v7 wc => ∃ (kq : Nat) (x7_37 : Int), v7 = .int .i64 x7_37 ∧ Aside0 (fleuronref03_ring.j4 kq x6_1 x7_37 = some r) ∧ Aside0 (kq ≤ k1) ∧ Aside0 (Kd.R k106 106 wc w.heap.size (fun _ => True) u6 x6_1) ∧ Aside0 (Below w.heap.size w wc))
    case first =>
     have H := HC38.out
     clear HC38
     by_cases c39 : x7_1 < 0
     ·
      rw [if_pos c39] at H
      have c39b0 : decide (x7_1 < 0) = true := decide_eq_true c39
      clear c39
      (first | rw [c39b0] | (simp only [i64_w, i32_w]; rw [c39b0]) | skip)
      have H' := aM H
      clear H
      obtain ⟨Ao40, co40, eo40⟩ := Kd.R_slice HO_6.out
      subst eo40
      go_wp2
      go_meet
      case rel => exact ⟨_, (wrap64 ((x6_1.length : Int) - 1)), (by first | rfl | (simp; done) | (simp [*]; done)), H', ⟨by have := HK1.out; first | omega | exact Nat.le_refl _⟩, ⟨by (with_reducible repeat (first | apply Kd.R_alloc | apply Kd.R_drewN | apply Kd.R_drew)); exact HO_6.out⟩, ⟨by repeat (first | (with_reducible first | exact HB.out | apply bA | apply bN | apply bD) | exact HB.out)⟩⟩
     ·
      rw [if_neg c39] at H
      have c39b0 : decide (x7_1 < 0) = false := decide_eq_false c39
      clear c39
      (first | rw [c39b0] | (simp only [i64_w, i32_w]; rw [c39b0]) | skip)
      have H' := aM H
      clear H
      go_wp2
      go_meet
      case rel => exact ⟨_, (x7_1), (by first | rfl | (simp; done) | (simp [*]; done)), H', ⟨by have := HK1.out; first | omega | exact Nat.le_refl _⟩, ⟨by (with_reducible repeat (first | apply Kd.R_alloc | apply Kd.R_drewN | apply Kd.R_drew)); exact HO_6.out⟩, ⟨by repeat (first | (with_reducible first | exact HB.out | apply bA | apply bN | apply bD) | exact HB.out)⟩⟩
    case rest =>
     clear HC38
     try clear c1
     try clear c2
     try clear p2
     try clear q2
     try clear c3
     try clear p3
     try clear q3
     try clear hx3
     try clear c5
     try clear c5b0
     try clear c6
     try clear p6
     try clear c7
     try clear c7b0
     try clear c8
     try clear c8b0
     try clear q9
     try clear c10
     try clear c12
     try clear c14
     try clear c14b0
     try clear c15
     try clear c15b0
     try clear c16
     try clear c16b0
     try clear c17
     try clear c18
     try clear c18b0
     try clear c18b1
     try clear c18b2
     try clear q22
     try clear c23
     try clear c25
     try clear c25b0
     try clear c26
     try clear c26b0
     try clear c27
     try clear c28
     try clear c28b0
     try clear c29
     try clear c29b0
     try clear c31
     try clear c31b0
     try clear p31
     try clear q31
     try clear hx31
     try clear c32
     try clear c32b0
     try clear p32
     try clear q32
     try clear hx32
     try clear c35
     try clear c39
     try clear c39b0
     try clear hx316_0
     try clear hx317_0
     try clear hx317_1
     try clear hx318_0
     try clear hx322_0
     try clear hx323_0
     try clear hx324_0
     try clear hx324_1
     try clear hx325_0
     try clear hx325_1
     try clear hx327_0
     try clear hx327_1
     try clear hx328_0
     try clear hx328_1
     try clear p2
     try clear p3
     try clear p316
     try clear p317
     try clear p318
     try clear p322
     try clear p323
     try clear p324
     try clear p325
     try clear p327
     try clear p328
     try clear p6
     try clear q2
     try clear q22
     try clear q3
     try clear q316
     try clear q317
     try clear q318
     try clear q322
     try clear q323
     try clear q324
     try clear q325
     try clear q327
     try clear q328
     try clear q9
     obtain ⟨kq, x7_37, rfl, HA, HJ37, HO_6, HB⟩ := hcut
     cases kq with
     | zero => exact absurd HA.out (by simp [fleuronref03_ring.j4])
     | succ kj37 =>
      have H := HA.out
      clear HA
      simp only [fleuronref03_ring.j4] at H
      obtain ⟨y333, hy333⟩ : ∃ y_ : List (S106), y_ = (([] : List (S106))) := ⟨_, rfl⟩
      replace H : (fleuronref03_ring.l1 kj37 x6_1 x7_37 y333 0) = some r := by first | (rw [hy333]; with_reducible exact H) | (have H2_ := (Option.bind_some _ _).symm.trans H; rw [hy333]; with_reducible exact H2_) | (have H2_ := (Option.bind_some _ _).symm.trans H; with_reducible exact H2_) | with_reducible exact H | (rw [hy333]; exact H) | exact H
      have Ny333 := aM hy333
      clear hy333
      have H' := aM H
      clear H
      go_wp2_with (first | ((with_reducible refine gate_dst (N := 92) rfl ?_); refine Kd.R_lit k106 _ 106 ?hg (N := 92) ?hd (xs := ([] : List (S106))) (inner := []) (ok := fun _ => True) (okp := fun _ => True) ?hr ?hp (fun _ hk => hk) trivial (Below.refl _ _) (Nat.le_refl _) (by simp) ?_; (case hd => rfl); (case hg => rfl); (case hr => first | (go_simp; done) | (go_simp; rfl)); (case hp => exact (Reps.none _ _)); intro v334 w41 ho42 hb hg_ hnew_; clear hg_ hnew_; (first | rw [← Ny333.out] at ho42 | (simp only [Int.reduceToNat] at ho42; rw [← Ny333.out] at ho42)); have n0_ := aM (Kd.R_elder' (by (with_reducible repeat (first | apply Kd.R_alloc | apply Kd.R_drewN | apply Kd.R_drew)); exact HO_6.out) (Kd.R_base ho42) hb); have n1_ := aM (Kd.R_lower (Kd.R_new' ho42 (Kd.R_lt (by (with_reducible repeat (first | apply Kd.R_alloc | apply Kd.R_drewN | apply Kd.R_drew)); exact HO_6.out))) (below_size (by repeat (first | (with_reducible first | exact HB.out | apply bA | apply bN | apply bD) | exact HB.out)))); have n2_ := aM (below_step (by repeat (first | (with_reducible first | exact HB.out | apply bA | apply bN | apply bD) | exact HB.out)) hb); clear HO_6; clear HB; have HO_6 := n0_; have HO335 := n1_; have HB := n2_; clear n0_ n1_ n2_; clear hb ho42))
      go_loopg [10, 11] kj37 (fun kq v10 v11 w' => ∃ (x10_3 : List (S106)) (x11_3 : Int), v11 = .int .i64 x11_3 ∧ Aside0 (fleuronref03_ring.l1 kq x6_1 x7_37 x10_3 x11_3 = some r) ∧ Aside0 (kq ≤ kj37) ∧ Aside0 (Kd.R k106 106 w' w.heap.size (fun k_ => some k_ ≠ (v10 : Value).ownBlock) u6 x6_1) ∧ Aside0 (Kd.R k106 106 w' w.heap.size (fun k_ => some k_ ≠ (u6 : Value).ownBlock) v10 x10_3) ∧ Aside0 (Below w.heap.size w w'))
      case atStart => exact ⟨(y333), (0), (by first | rfl | (simp; done) | (simp [*]; done)), H', ⟨Nat.le_refl _⟩, ⟨by (with_reducible repeat (first | apply Kd.R_alloc | apply Kd.R_drewN | apply Kd.R_drew)); exact Kd.R_mono HO_6.out (fun _ hk => hk.2)⟩, ⟨by (with_reducible repeat (first | apply Kd.R_alloc | apply Kd.R_drewN | apply Kd.R_drew)); exact Kd.R_mono HO335.out (fun _ hk => hk.2)⟩, ⟨by repeat (first | (with_reducible first | exact HB.out | apply bA | apply bN | apply bD) | exact HB.out)⟩⟩
      case round =>
       clear H'
       try clear c1
       try clear c2
       try clear p2
       try clear q2
       try clear c3
       try clear p3
       try clear q3
       try clear hx3
       try clear c5
       try clear c5b0
       try clear c6
       try clear p6
       try clear c7
       try clear c7b0
       try clear c8
       try clear c8b0
       try clear q9
       try clear c10
       try clear c12
       try clear c14
       try clear c14b0
       try clear c15
       try clear c15b0
       try clear c16
       try clear c16b0
       try clear c17
       try clear c18
       try clear c18b0
       try clear c18b1
       try clear c18b2
       try clear q22
       try clear c23
       try clear c25
       try clear c25b0
       try clear c26
       try clear c26b0
       try clear c27
       try clear c28
       try clear c28b0
       try clear c29
       try clear c29b0
       try clear c31
       try clear c31b0
       try clear p31
       try clear q31
       try clear hx31
       try clear c32
       try clear c32b0
       try clear p32
       try clear q32
       try clear hx32
       try clear c35
       try clear c39
       try clear c39b0
       try clear hx316_0
       try clear hx317_0
       try clear hx317_1
       try clear hx318_0
       try clear hx322_0
       try clear hx323_0
       try clear hx324_0
       try clear hx324_1
       try clear hx325_0
       try clear hx325_1
       try clear hx327_0
       try clear hx327_1
       try clear hx328_0
       try clear hx328_1
       try clear p2
       try clear p3
       try clear p31
       try clear p316
       try clear p317
       try clear p318
       try clear p32
       try clear p322
       try clear p323
       try clear p324
       try clear p325
       try clear p327
       try clear p328
       try clear p6
       try clear q2
       try clear q22
       try clear q3
       try clear q31
       try clear q316
       try clear q317
       try clear q318
       try clear q32
       try clear q322
       try clear q323
       try clear q324
       try clear q325
       try clear q327
       try clear q328
       try clear q9
       obtain ⟨x10_3, x11_3, rfl, HA, HK3, HO_6, HO_10, HB⟩ := hrel
       cases gk with
       | zero => exact absurd HA.out (by simp [fleuronref03_ring.l1])
       | succ k3 =>
        have H := HA.out
        clear HA
        simp only [fleuronref03_ring.l1] at H
        by_cases c43 : x11_3 < (x6_1.length : Int)
        ·
         rw [if_pos c43] at H
         have c43b0 : decide (x11_3 < (x6_1.length : Int)) = true := decide_eq_true c43
         clear c43
         by_cases c44 : (x6_1.length : Int) = 0
         ·
          rw [if_pos c44] at H
          exact absurd H (by simp)
         ·
          rw [if_neg c44] at H
          have c44b0 : ((x6_1.length : Int) == 0) = false := beq_eq_false_iff_ne.mpr c44
          have c44b1 : ((x6_1.length : Int) != 0) = true := bne_iff_ne.mpr c44
          have c44b2 : ¬ (x6_1 = []) := fun h_ => c44 (by rw [h_]; rfl)
          obtain ⟨ji45, hji45⟩ : ∃ j_ : Int, (Int.tmod (wrap64 (x7_37 + x11_3)) (x6_1.length : Int)) = j_ := ⟨_, rfl⟩
          replace H : (if 0 ≤ (ji45) then (if (ji45) < (x6_1.length : Int) then (if x10_3.length < 5864062014805 then (fleuronref03_ring.l1 k3 x6_1 x7_37 (x10_3 ++ [(⟨(⟨(rd_T106 x6_1 (ji45)).f0.f0, (rd_T106 x6_1 (ji45)).f0.f1⟩ : S52), (rd_T106 x6_1 (ji45)).f1⟩ : S106)]) (wrap64 (x11_3 + 1))) else (none)) else (none)) else (none)) = some r := by first | (rw [hji45] at H; exact H) | (simp only [hji45] at H ⊢; exact H)
          by_cases c46 : 0 ≤ (ji45)
          ·
           rw [if_pos c46] at H
           have c46b0 : decide (0 ≤ (ji45)) = true := decide_eq_true c46
           clear c46
           by_cases c47 : (ji45) < (x6_1.length : Int)
           ·
            rw [if_pos c47] at H
            have c47b0 : decide ((ji45) < (x6_1.length : Int)) = true := decide_eq_true c47
            clear c47
            by_cases c48 : x10_3.length < 5864062014805
            ·
             rw [if_pos c48] at H
             have LMc48 := aM c48
             clear c48
             obtain ⟨y337, hy337⟩ : ∃ y_ : List (S106), y_ = (x10_3 ++ [(⟨(⟨(rd_T106 x6_1 (ji45)).f0.f0, (rd_T106 x6_1 (ji45)).f0.f1⟩ : S52), (rd_T106 x6_1 (ji45)).f1⟩ : S106)]) := ⟨_, rfl⟩
             replace H : (fleuronref03_ring.l1 k3 x6_1 x7_37 y337 (wrap64 (x11_3 + 1))) = some r := by first | (rw [hy337]; with_reducible exact H) | (have H2_ := (Option.bind_some _ _).symm.trans H; rw [hy337]; with_reducible exact H2_) | (have H2_ := (Option.bind_some _ _).symm.trans H; with_reducible exact H2_) | with_reducible exact H | (rw [hy337]; exact H) | exact H
             have Ny337 := aM hy337
             clear hy337
             have H' := aM H
             clear H
             obtain ⟨Ao49, co49, eo49⟩ := Kd.R_slice HO_6.out
             subst eo49
             have p336 : 0 ≤ ((ji45) : Int) := of_decide_eq_true (by assumption)
             have q336 : (ji45) < (x6_1.length : Int) := of_decide_eq_true (by assumption)
             obtain ⟨ad336, e336, hx336_0, hx336_1, hx336_2⟩ := at_T106 (Kd.R_reads' HO_6.out).2.2 (ji45) p336 q336
             cases e336
             replace p336 := eq_true p336
             replace q336 := eq_true q336
             go_wp2_with (first | ((with_reducible refine gate_builtin (b := .append) (xs := #[.tmp 99, .tmp 109]) rfl ?_); at_builtin; refine Kd.R_append k106 (w0 := w) w.heap.size rfl (.tmp 99) (.tmp 109) 103 106 (.agg #[(.int .i64 0), (.int .i64 0), (.bool false)]) 24 rfl Try.underlying103 info106 rfl (by decide) (by omega) u10 x10_3 (⟨(⟨(rd_T106 x6_1 (ji45)).f0.f0, (rd_T106 x6_1 (ji45)).f0.f1⟩ : S52), (rd_T106 x6_1 (ji45)).f1⟩ : S106) [.int .i64 ((rd_T106 x6_1 (ji45)).f0.f0), .int .i64 ((rd_T106 x6_1 (ji45)).f0.f1), .bool ((rd_T106 x6_1 (ji45)).f1)] (fun k_ => some k_ ≠ (.slice (some ad336) x6_1.length co49 : Value).ownBlock) (fun _ => False) rfl rfl ?aP (fun _ hk => hk.elim) ?aF ?aO ?aB ?aS ?aL ?_; (case aP => exact k106_mkM _ _ _ (⟨(⟨(rd_T106 x6_1 (ji45)).f0.f0, (rd_T106 x6_1 (ji45)).f0.f1⟩ : S52), (rd_T106 x6_1 (ji45)).f1⟩ : S106)); (case aB => exact (by repeat (first | (with_reducible first | exact HB.out | apply bA | apply bN | apply bD) | exact HB.out))); (case aF => exact (fun k_ hk => Kd.fresh' (Kd.R_lt (by (with_reducible repeat (first | apply Kd.R_alloc | apply Kd.R_drewN | apply Kd.R_drew)); exact HO_6.out)) k_ hk)); (case aO => exact (by (with_reducible repeat (first | apply Kd.R_alloc | apply Kd.R_drewN | apply Kd.R_drew)); exact HO_10.out)); (case aS => exact (below_size (by repeat (first | (with_reducible first | exact HB.out | apply bA | apply bN | apply bD) | exact HB.out)))); (case aL => have := LMc48.out; omega); intro v338 w50 ho hb hg hat; rw [← Ny337.out] at ho; have n0_ := aM (Kd.R_after (ok := (fun _ => True)) (by (with_reducible repeat (first | apply Kd.R_alloc | apply Kd.R_drewN | apply Kd.R_drew)); exact Kd.R_mono HO_6.out (fun _ hk => ⟨trivial, hk⟩)) hg hat); have n1_ := aM (hb); have n2_ := aM (ho); clear HO_6; clear HB; clear HO_10; have HO_6 := n0_; have HB := n1_; have HO339 := n2_; clear n0_ n1_ n2_; clear ho hb hg hat))
             go_roundg k3
             case measure => have := HK1.out; have := HJ37.out; have := HK3.out; omega
             case rel => exact ⟨(y337), (wrap64 (x11_3 + 1)), (by first | rfl | (simp; done) | (simp [*]; done)), H', ⟨by have := HK1.out; have := HJ37.out; have := HK3.out; omega⟩, ⟨by (with_reducible repeat (first | apply Kd.R_alloc | apply Kd.R_drewN | apply Kd.R_drew)); exact Kd.R_mono HO_6.out (fun _ hk => hk.2)⟩, ⟨by (with_reducible repeat (first | apply Kd.R_alloc | apply Kd.R_drewN | apply Kd.R_drew)); exact HO339.out⟩, ⟨by repeat (first | (with_reducible first | exact HB.out | apply bA | apply bN | apply bD) | exact HB.out)⟩⟩
            ·
             rw [if_neg c48] at H
             exact absurd H (by simp)
           ·
            rw [if_neg c47] at H
            exact absurd H (by simp)
          ·
           rw [if_neg c46] at H
           exact absurd H (by simp)
        ·
         rw [if_neg c43] at H
         have c43b0 : decide (x11_3 < (x6_1.length : Int)) = false := decide_eq_false c43
         clear c43
         obtain rfl := Option.some.inj H
         obtain ⟨Ao51, co51, eo51⟩ := Kd.R_slice HO_6.out
         subst eo51
         go_wp2
         go_ret
         exact ⟨_, by first | rfl | (simp [errW_none, errW_some] <;> rfl) | (simp [*, errW_none, errW_some] <;> rfl), by (with_reducible repeat (first | apply Kd.R_alloc | apply Kd.R_drewN | apply Kd.R_drew)); exact Kd.R_mono HO_10.out (fun _ hk => trivial), by repeat (first | (with_reducible first | exact HB.out | apply bA | apply bN | apply bD) | exact HB.out)⟩

end Go.Proofs.Ytbmklpcheopgoaa.H
