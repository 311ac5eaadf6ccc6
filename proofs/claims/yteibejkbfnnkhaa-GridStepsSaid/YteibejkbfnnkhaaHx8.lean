/- What the Go functions of this seat compute, as Lean functions, each with the proof that the call answers so; made by a program of this session. -/
import Derived.Test.YteibejkbfnnkhaaHx0
import Derived.Test.YteibejkbfnnkhaaHx1
import Derived.Test.YteibejkbfnnkhaaHx2
import Derived.Test.YteibejkbfnnkhaaHx5
import Derived.Test.YteibejkbfnnkhaaHx6
import Derived.Test.YteibejkbfnnkhaaHx7
namespace Go.Proofs.Yteibejkbfnnkhaa.H
open Go.RowKit Go.Proofs.YteibejkbfnnkhaaW.PrintWords Go.Proofs.YteibejkbfnnkhaaW.PrintLast Go.Proofs.YteibejkbfnnkhaaW.PrintMore
theorem not_beq_YteibejkbfnnkhaaHx8 (a b : Bool) : (!(a == b)) = (a != b) := rfl
attribute [local go_sem] not_beq_YteibejkbfnnkhaaHx8
attribute [local go_sem] max2_int min2_int max_two min_two max_three min_three max_four min_four   -- for this text's walks alone
set_option linter.unusedVariables false
set_option linter.unusedSimpArgs false

/-! ### ratio_half: function 11 -/
def ratio_half.j0 : Nat → Int → Bool → Bool → Int → Int → Int → Int → Option (Int × Bool)
  | 0, _, _, _, _, _, _, _ => none
  | k + 1, x1, x32, x145000, x145001, x145002, x149000, x149001 => if x32 = true then ((ratio_wide_plus.f x149000 x149001 0 1).bind fun bt149 => ((ratio_floor.f k x145000 bt149.1 bt149.2 x1).bind fun bt151 => (some (bt151.1, bt151.2)))) else ((ratio_floor.f k x145000 x149000 x149001 x1).bind fun bt153 => (some (bt153.1, bt153.2)))
def ratio_half.f (k : Nat) (a0_0 : Bool) (a0_1 : Int) (a0_2 : Int) (a1 : Int) : Option (Int × Bool) := (ratio_wide_plus.f a0_1 a0_2 a0_1 a0_2).bind fun bt139 => ((ratio_signed_add.f a0_0 bt139.1 bt139.2 false 0 a1).bind fun bt141 => ((ratio_wide_by.f k bt141.2.1 bt141.2.2 2).bind fun bt145 => (if bt141.1 = true then (ratio_half.j0 k a1 (bt145.2.2 != 0) bt141.1 bt141.2.1 bt141.2.2 bt145.1 bt145.2.1) else (ratio_half.j0 k a1 false bt141.1 bt141.2.1 bt141.2.2 bt145.1 bt145.2.1))))
theorem ratio_half.mono_l : ∀ k, (∀ y0 y1 y2 y3 y4 y5 y6, LeO (ratio_half.j0 k y0 y1 y2 y3 y4 y5 y6) (ratio_half.j0 (k + 1) y0 y1 y2 y3 y4 y5 y6))
  | 0 => fun _ _ _ _ _ _ _ r h => by simp [ratio_half.j0] at h
  | k + 1 => by
    have ih0 := ratio_half.mono_l k
    · intro y0 y1 y2 y3 y4 y5 y6
      unfold ratio_half.j0
      repeat' first
      | (with_reducible exact ih0 _ _ _ _ _ _ _)
      | (with_reducible exact ratio_floor.mono _ _ _ _ _)
      | (with_reducible exact ratio_wide_by.mono _ _ _ _)
      | (with_reducible exact LeO.refl _)
      | (with_reducible exact LeO.none _)
      | (with_reducible refine LeO.ite ?_ ?_)
      | (with_reducible refine LeO.bind ?_ (fun _ => ?_))
      | exact ih0 _ _ _ _ _ _ _
      | exact ratio_floor.mono _ _ _ _ _
      | exact ratio_wide_by.mono _ _ _ _
      | exact LeO.none _
      | refine LeO.ite ?_ ?_
      | refine LeO.bind ?_ (fun _ => ?_)
theorem ratio_half.mono : ∀ a0 a1 a2 a3 k, LeO (ratio_half.f k a0 a1 a2 a3) (ratio_half.f (k + 1) a0 a1 a2 a3) := by
  intro a0 a1 a2 a3 k
  have ih0 := ratio_half.mono_l k
  unfold ratio_half.f
  repeat' first
      | (with_reducible exact ih0 _ _ _ _ _ _ _)
      | (with_reducible exact ratio_floor.mono _ _ _ _ _)
      | (with_reducible exact ratio_wide_by.mono _ _ _ _)
      | (with_reducible exact LeO.refl _)
      | (with_reducible exact LeO.none _)
      | (with_reducible refine LeO.ite ?_ ?_)
      | (with_reducible refine LeO.bind ?_ (fun _ => ?_))
      | exact ih0 _ _ _ _ _ _ _
      | exact ratio_floor.mono _ _ _ _ _
      | exact ratio_wide_by.mono _ _ _ _
      | exact LeO.none _
      | refine LeO.ite ?_ ?_
      | refine LeO.bind ?_ (fun _ => ?_)
def ratio_half.T1 : Bool × List (List Nat × List Nat) := (true, [([], []), ([0], [0]), ([], []), ([2], [2]), ([], []), ([4], [4]), ([3, 5], [3, 5]), ([1, 6], [1, 6]), ([], []), ([8], [8]), ([9], [9]), ([7, 10, 6], [7, 10]), ([], []), ([12, 11, 11, 0, 1, 2, 3, 4, 5, 6, 7, 8, 9, 10, 11, 12], [11, 12])])
def ratio_half.B1 : List Nat := [0, 1, 0, 4, 0, 16, 60, 127, 0, 256, 768, 2047, 0, 8191]
theorem ratio_half.tab1 : rtab .any (opsOf Try.f11 1) = ratio_half.T1 := by kernel_rfl
theorem ratio_half.bits1 : waitsOk ratio_half.T1.2 ratio_half.B1 = true := by kernel_rfl
set_option maxHeartbeats 8000000 in
set_option maxRecDepth 100000 in
theorem ratio_half.calls (k : Nat) (a0_0 : Bool) (a0_1 : Int) (a0_2 : Int) (a1 : Int) (r1 : Int) (r2 : Bool) (w : World) (h : ratio_half.f k a0_0 a0_1 a0_2 a1 = some (r1, r2)) :
    Calls Try.prog 11 #[.agg #[.bool a0_0, .int .u64 a0_1, .int .u64 a0_2], .int .u64 a1] w fun e w' => e = .returned (.tuple #[.int .i64 r1, .bool r2]) ∧ Below w.heap.size w w' := by
  have hu36 := Try.underlying36
  have hu34 := Try.underlying34
  have HB := Aside0.mk (Below.refl w.heap.size w)
  have H : ((ratio_wide_plus.f a0_1 a0_2 a0_1 a0_2).bind fun bt139 => ((ratio_signed_add.f a0_0 bt139.1 bt139.2 false 0 a1).bind fun bt141 => ((ratio_wide_by.f k bt141.2.1 bt141.2.2 2).bind fun bt145 => (if bt141.1 = true then (ratio_half.j0 k a1 (bt145.2.2 != 0) bt141.1 bt141.2.1 bt141.2.2 bt145.1 bt145.2.1) else (ratio_half.j0 k a1 false bt141.1 bt141.2.1 bt141.2.2 bt145.1 bt145.2.1))))) = some (r1, r2) := h
  clear h
  replace H := Option.bind_eq_some_iff.mp H
  obtain ⟨⟨t139, t140⟩, A30, H⟩ := H
  replace H : ((ratio_signed_add.f a0_0 t139 t140 false 0 a1).bind fun bt141 => ((ratio_wide_by.f k bt141.2.1 bt141.2.2 2).bind fun bt145 => (if bt141.1 = true then (ratio_half.j0 k a1 (bt145.2.2 != 0) bt141.1 bt141.2.1 bt141.2.2 bt145.1 bt145.2.1) else (ratio_half.j0 k a1 false bt141.1 bt141.2.1 bt141.2.2 bt145.1 bt145.2.1)))) = some (r1, r2) := H
  have A3 := Aside0.mk A30
  clear A30
  replace H := Option.bind_eq_some_iff.mp H
  obtain ⟨⟨t141, t142, t143⟩, A40, H⟩ := H
  replace H : ((ratio_wide_by.f k t142 t143 2).bind fun bt145 => (if t141 = true then (ratio_half.j0 k a1 (bt145.2.2 != 0) t141 t142 t143 bt145.1 bt145.2.1) else (ratio_half.j0 k a1 false t141 t142 t143 bt145.1 bt145.2.1))) = some (r1, r2) := H
  have A4 := Aside0.mk A40
  clear A40
  replace H := Option.bind_eq_some_iff.mp H
  obtain ⟨⟨t145, t146, t147⟩, A50, H⟩ := H
  replace H : (if t141 = true then (ratio_half.j0 k a1 (t147 != 0) t141 t142 t143 t145 t146) else (ratio_half.j0 k a1 false t141 t142 t143 t145 t146)) = some (r1, r2) := H
  have A5 := Aside0.mk A50
  clear A50
  have HC6 := Aside0.mk H
  clear H
  go_enter Try.func11, Try.ntmps11
  try go_wp2_with (first | ((with_reducible refine gate_dst (N := 2) rfl ?_); refine box_event ?hg (N := 2) ?hd (cs := #[.bool a0_0, .int .u64 a0_1, .int .u64 a0_2]) (t := 36) ?hr ?_; (case hd => rfl); (case hg => rfl); (case hr => first | (go_simp; done) | (go_simp; rfl)); intro gb138 hg w7 hbox hb; have n0_ := Aside0.mk (below_step (by repeat (first | (with_reducible first | exact HB.out | apply below_alloc | apply pw_below_drewN | apply below_drew1) | exact HB.out)) hb); have n1_ := Aside0.mk (hbox); have n2_ := Aside0.mk ((by rw [hg]; exact (below_size (by repeat (first | (with_reducible first | exact HB.out | apply below_alloc | apply pw_below_drewN | apply below_drew1) | exact HB.out))) : w.heap.size ≤ gb138)); have n3_ := Aside0.mk ((by rw [hg]; exact (below_size (by repeat (first | (with_reducible first | exact HB.out | apply below_alloc | apply pw_below_drewN | apply below_drew1) | exact HB.out))) : w.heap.size ≤ gb138)); clear HB; have HB := n0_; have BK138 := n1_; have GW138 := n2_; have GE138 := n3_; clear n0_ n1_ n2_ n3_; clear hb hbox hg))
  have n0_ := Aside0.mk (blk_drew BK138.out)
  have n1_ := Aside0.mk (below_drew1 HB.out)
  clear BK138
  clear HB
  have BK138 := n0_
  have HB := n1_
  clear n0_ n1_
  refine start_ (n := 14) (S := fun w' => w'.cell? ⟨gb138, 0, none⟩ = some (.bool a0_0) ∧ w'.cell? ⟨gb138, 1, none⟩ = some (.int .u64 a0_1) ∧ w'.cell? ⟨gb138, 2, none⟩ = some (.int .u64 a0_2)) (ds := []) #[false, false, false, false, false, false, false, false, false, false, false, false, false, false] (by kernel_rfl) rfl rfl ⟨(blk_cell BK138.out 0).trans rfl, (blk_cell BK138.out 1).trans rfl, (blk_cell BK138.out 2).trans rfl⟩ (fun hHeld => ?_); refine with_tabW ratio_half.tab1 ratio_half.bits1 (fun HT_ HW_ => ?_)
  generalize w7.drew = w8 at BK138 HB hHeld ⊢
  refine pure_ (i := 0) (N := some 9) (v := ?_) (a' := ?_) #[true, false, false, false, false, false, false, false, false, false, false, false, false, false] rfl rfl (any_of HT_.out (by kernel_rfl)) (fun _ _ _ h => h) (Or.inl ⟨by rfl, ?_⟩) ?_ ?_
  rotate_left
  · intro w'
    go_simp
    with_reducible rfl
  rotate_left
  · simp only [Act.put, List.setIfInBounds_toArray, List.set_cons_zero, List.set_cons_succ, i64_w, i32_w]
    rfl
  refine pure_ (i := 2) (N := some 11) (v := ?_) (a' := ?_) #[true, false, true, false, false, false, false, false, false, false, false, false, false, false] rfl rfl (any_of HT_.out (by kernel_rfl)) (fun _ _ _ h => h) (Or.inl ⟨by rfl, ?_⟩) ?_ ?_
  rotate_left
  · intro w'
    go_simp
    with_reducible rfl
  rotate_left
  · simp only [Act.put, List.setIfInBounds_toArray, List.set_cons_zero, List.set_cons_succ, i64_w, i32_w]
    rfl
  refine pure_ (i := 4) (N := some 13) (v := ?_) (a' := ?_) #[true, false, true, false, true, false, false, false, false, false, false, false, false, false] rfl rfl (any_of HT_.out (by kernel_rfl)) (fun _ _ _ h => h) (Or.inl ⟨by rfl, ?_⟩) ?_ ?_
  rotate_left
  · intro w'
    go_simp
    with_reducible rfl
  rotate_left
  · simp only [Act.put, List.setIfInBounds_toArray, List.set_cons_zero, List.set_cons_succ, i64_w, i32_w]
    rfl
  refine pure_ (i := 8) (N := some 17) (v := ?_) (a' := ?_) #[true, false, true, false, true, false, false, false, true, false, false, false, false, false] rfl rfl (any_of HT_.out (by kernel_rfl)) (fun _ _ _ h => h) (Or.inl ⟨by rfl, ?_⟩) ?_ ?_
  rotate_left
  · intro w'
    go_simp
    with_reducible rfl
  rotate_left
  · simp only [Act.put, List.setIfInBounds_toArray, List.set_cons_zero, List.set_cons_succ, i64_w, i32_w]
    rfl
  refine pure_ (i := 9) (N := some 18) (v := ?_) (a' := ?_) #[true, false, true, false, true, false, false, false, true, true, false, false, false, false] rfl rfl (any_of HT_.out (by kernel_rfl)) (fun _ _ _ h => h) (Or.inl ⟨by rfl, ?_⟩) ?_ ?_
  rotate_left
  · intro w'
    go_simp
    with_reducible rfl
  rotate_left
  · simp only [Act.put, List.setIfInBounds_toArray, List.set_cons_zero, List.set_cons_succ, i64_w, i32_w]
    rfl
  refine pure_ (i := 10) (N := some 19) (v := ?_) (a' := ?_) #[true, false, true, false, true, false, false, false, true, true, true, false, false, false] rfl rfl (any_of HT_.out (by kernel_rfl)) (fun _ _ _ h => h) (Or.inl ⟨by rfl, ?_⟩) ?_ ?_
  rotate_left
  · intro w'
    go_simp
    with_reducible rfl
  rotate_left
  · simp only [Act.put, List.setIfInBounds_toArray, List.set_cons_zero, List.set_cons_succ, i64_w, i32_w]
    rfl
  refine take_ (i := 1) (N := some 10) (v := ?_) (a' := ?_) #[true, true, true, false, true, false, false, false, true, true, true, false, false, false] rfl rfl (take_ofW HT_.out HW_.out (by kernel_rfl)) (fun _ _ _ h => h) (Or.inl ⟨by rfl, ?_⟩) hHeld ?_ ?_
  rotate_left
  · rintro w' ⟨s0, s1, s2⟩
    go_simp
    with_reducible rfl
  rotate_left
  · simp only [Act.put, List.setIfInBounds_toArray, List.set_cons_zero, List.set_cons_succ, i64_w, i32_w]
    rfl
  refine take_ (i := 3) (N := some 12) (v := ?_) (a' := ?_) #[true, true, true, true, true, false, false, false, true, true, true, false, false, false] rfl rfl (take_ofW HT_.out HW_.out (by kernel_rfl)) (fun _ _ _ h => h) (Or.inl ⟨by rfl, ?_⟩) hHeld ?_ ?_
  rotate_left
  · rintro w' ⟨s0, s1, s2⟩
    go_simp
    with_reducible rfl
  rotate_left
  · simp only [Act.put, List.setIfInBounds_toArray, List.set_cons_zero, List.set_cons_succ, i64_w, i32_w]
    rfl
  refine take_ (i := 5) (N := some 14) (v := ?_) (a' := ?_) #[true, true, true, true, true, true, false, false, true, true, true, false, false, false] rfl rfl (take_ofW HT_.out HW_.out (by kernel_rfl)) (fun _ _ _ h => h) (Or.inl ⟨by rfl, ?_⟩) hHeld ?_ ?_
  rotate_left
  · rintro w' ⟨s0, s1, s2⟩
    go_simp
    with_reducible rfl
  rotate_left
  · simp only [Act.put, List.setIfInBounds_toArray, List.set_cons_zero, List.set_cons_succ, i64_w, i32_w]
    rfl
  refine join_ (σ := Nat) 1 #[true, true, true, true, true, true, true, true, true, true, true, true, true, false] (fun s_ => [(15, .agg #[.int .u64 t139, .int .u64 t140]), (20, .agg #[.bool t141, .int .u64 t142, .int .u64 t143]), (6, .pointer (some ⟨s_, 0, none⟩)), (16, .agg #[.bool a0_0, .int .u64 t139, .int .u64 t140])]) (fun s_ w' => (w'.cell? ⟨gb138, 0, none⟩ = some (.bool a0_0) ∧ w'.cell? ⟨gb138, 1, none⟩ = some (.int .u64 a0_1) ∧ w'.cell? ⟨gb138, 2, none⟩ = some (.int .u64 a0_2)) ∧ (w'.heap[gb138]? = some (.cells #[.bool a0_0, .int .u64 a0_1, .int .u64 a0_2] 36 (0, 0))) ∧ (w'.heap[s_]? = some (.cells #[.bool false, .int .u64 0, .int .u64 0] 36 (0, 0))) ∧ (w.heap.size ≤ s_) ∧ (w.heap.size ≤ s_) ∧ (gb138 ≠ s_) ∧ (s_ ≠ gb138) ∧ (Below w.heap.size w w')) ?_ ?_
  rotate_left
  · intro hCont
    refine two_ (i := 6) (j := 12) (Ni := some 15) (Nj := some 6) #[true, true, true, true, true, true, true, false, true, true, true, false, false, false] #[true, true, true, true, true, true, false, false, true, true, true, false, true, false] rfl rfl rfl rfl (two_of HT_.out (by kernel_rfl)) (by decide) (by decide) (fun K hK => ?_) (fun K hK => ?_)
    · skip
      refine goes_ Try.func18 (by kernel_rfl) rfl #[.agg #[.int .u64 a0_1, .int .u64 a0_2], .agg #[.int .u64 a0_1, .int .u64 a0_2]] (by rfl) rfl rfl (by (try simp only [List.map_toArray, List.map_cons, List.map_nil]); first | done | rfl | (simp only [List.length_drop, List.length_take]; rfl)) ?_
      with_reducible refine (ratio_wide_plus.calls a0_1 a0_2 a0_1 a0_2 t139 t140 _ A3.out).mono ?_
      rintro e w9 ⟨rfl, hb⟩
      refine ⟨_, rfl, ?_⟩
      have n0_ := Aside0.mk (blk_below (g := gb138) (o := .cells #[.bool a0_0, .int .u64 a0_1, .int .u64 a0_2] 36 (0, 0)) (by (with_reducible repeat (first | refine blk_drewN ?_ _ | refine blk_drew ?_ | refine blk_alloc ?_ _)); exact BK138.out) hb)
      have n1_ := Aside0.mk (below_step (by repeat (first | (with_reducible first | exact HB.out | apply below_alloc | apply pw_below_drewN | apply below_drew1 | refine below_set ?_ GE138.out) | exact HB.out)) hb)
      clear BK138
      clear HB
      have BK138 := n0_
      have HB := n1_
      clear n0_ n1_
      (try clear hb)
      (try clear hb2)
      (try clear hk)
      (try clear hi)
      refine hK.out _ _ ⟨(blk_cell BK138.out 0).trans rfl, (blk_cell BK138.out 1).trans rfl, (blk_cell BK138.out 2).trans rfl⟩ (fun hHeld => ?_)
      clear hK K
      refine norm_ (a' := ?_) ?_ ?_
      rotate_left
      · show Act.put _ (some 15) _ = _
        simp only [Act.put, List.setIfInBounds_toArray, List.set_cons_zero, List.set_cons_succ, i64_w, i32_w]
        rfl
      refine pure_ (i := 7) (N := some 16) (v := ?_) (a' := ?_) #[true, true, true, true, true, true, true, true, true, true, true, false, false, false] rfl rfl (any_of HT_.out (by kernel_rfl)) (fun _ _ _ h => h) (Or.inl ⟨by rfl, ?_⟩) ?_ ?_
      rotate_left
      · intro w'
        go_simp
        with_reducible rfl
      rotate_left
      · simp only [Act.put, List.setIfInBounds_toArray, List.set_cons_zero, List.set_cons_succ, i64_w, i32_w]
        rfl
      refine two_ (i := 11) (j := 12) (Ni := some 20) (Nj := some 6) #[true, true, true, true, true, true, true, true, true, true, true, true, false, false] #[true, true, true, true, true, true, true, true, true, true, true, false, true, false] rfl rfl rfl rfl (two_of HT_.out (by kernel_rfl)) (by decide) (by decide) (fun K hK => ?_) (fun K hK => ?_)
      · skip
        refine goes_ Try.func19 (by kernel_rfl) rfl #[.agg #[.bool a0_0, .int .u64 t139, .int .u64 t140], .agg #[.bool false, .int .u64 0, .int .u64 a1]] (by rfl) rfl rfl (by (try simp only [List.map_toArray, List.map_cons, List.map_nil]); first | done | rfl | (simp only [List.length_drop, List.length_take]; rfl)) ?_
        with_reducible refine (ratio_signed_add.calls a0_0 t139 t140 false 0 a1 t141 t142 t143 _ A4.out).mono ?_
        rintro e w10 ⟨rfl, hb⟩
        refine ⟨_, rfl, ?_⟩
        have n0_ := Aside0.mk (blk_below (g := gb138) (o := .cells #[.bool a0_0, .int .u64 a0_1, .int .u64 a0_2] 36 (0, 0)) (by (with_reducible repeat (first | refine blk_drewN ?_ _ | refine blk_drew ?_ | refine blk_alloc ?_ _)); exact BK138.out) hb)
        have n1_ := Aside0.mk (below_step (by repeat (first | (with_reducible first | exact HB.out | apply below_alloc | apply pw_below_drewN | apply below_drew1 | refine below_set ?_ GE138.out) | exact HB.out)) hb)
        clear BK138
        clear HB
        have BK138 := n0_
        have HB := n1_
        clear n0_ n1_
        (try clear hb)
        (try clear hb2)
        (try clear hk)
        (try clear hi)
        refine hK.out _ _ ⟨(blk_cell BK138.out 0).trans rfl, (blk_cell BK138.out 1).trans rfl, (blk_cell BK138.out 2).trans rfl⟩ (fun hHeld => ?_)
        clear hK K
        refine norm_ (a' := ?_) ?_ ?_
        rotate_left
        · show Act.put _ (some 20) _ = _
          simp only [Act.put, List.setIfInBounds_toArray, List.set_cons_zero, List.set_cons_succ, i64_w, i32_w]
          rfl
        refine one_ (i := 12) (N := some 6) #[true, true, true, true, true, true, true, true, true, true, true, true, true, false] rfl rfl (one_of HT_.out (by kernel_rfl)) (by decide) (fun K hK => ?_)
        refine box_step ?hg (N := 6) ?hd (cs := #[.bool false, .int .u64 0, .int .u64 0]) (t := 36) ?hr ?_; (case hd => rfl); (case hg => rfl); (case hr => first | (go_simp; done) | (go_simp; rfl))
        intro gb144 hg w11 hbox hb
        have n0_ := Aside0.mk (blk_below (g := gb138) (o := .cells #[.bool a0_0, .int .u64 a0_1, .int .u64 a0_2] 36 (0, 0)) (by (with_reducible repeat (first | refine blk_drewN ?_ _ | refine blk_drew ?_ | refine blk_alloc ?_ _)); exact BK138.out) hb)
        have n1_ := Aside0.mk (below_step (by repeat (first | (with_reducible first | exact HB.out | apply below_alloc | apply pw_below_drewN | apply below_drew1 | refine below_set ?_ GE138.out) | exact HB.out)) hb)
        have n2_ := Aside0.mk (hbox)
        have n3_ := Aside0.mk ((by rw [hg]; exact (below_size (by repeat (first | (with_reducible first | exact HB.out | apply below_alloc | apply pw_below_drewN | apply below_drew1 | refine below_set ?_ GE138.out) | exact HB.out))) : w.heap.size ≤ gb144))
        have n4_ := Aside0.mk ((by rw [hg]; exact (below_size (by repeat (first | (with_reducible first | exact HB.out | apply below_alloc | apply pw_below_drewN | apply below_drew1 | refine below_set ?_ GE138.out) | exact HB.out))) : w.heap.size ≤ gb144))
        have n5_ := Aside0.mk ((by rw [hg]; exact Nat.ne_of_lt (blk_lt (g := gb138) (o := .cells #[.bool a0_0, .int .u64 a0_1, .int .u64 a0_2] 36 (0, 0)) (by (with_reducible repeat (first | refine blk_drewN ?_ _ | refine blk_drew ?_ | refine blk_alloc ?_ _)); exact BK138.out)) : gb138 ≠ gb144))
        have n6_ := Aside0.mk ((by rw [hg]; exact Nat.ne_of_gt (blk_lt (g := gb138) (o := .cells #[.bool a0_0, .int .u64 a0_1, .int .u64 a0_2] 36 (0, 0)) (by (with_reducible repeat (first | refine blk_drewN ?_ _ | refine blk_drew ?_ | refine blk_alloc ?_ _)); exact BK138.out)) : gb144 ≠ gb138))
        clear BK138
        clear HB
        have BK138 := n0_
        have HB := n1_
        have BK144 := n2_
        have GW144 := n3_
        have GE144 := n4_
        have NB138_144 := n5_
        have NB144_138 := n6_
        clear n0_ n1_ n2_ n3_ n4_ n5_ n6_
        clear hb hbox hg
        refine hK.out _ _ ⟨(blk_cell BK138.out 0).trans rfl, (blk_cell BK138.out 1).trans rfl, (blk_cell BK138.out 2).trans rfl⟩ (fun hHeld => ?_)
        clear hK K
        refine norm_ (a' := ?_) ?_ ?_
        rotate_left
        · show Act.put _ (some 6) _ = _
          simp only [Act.put, List.setIfInBounds_toArray, List.set_cons_zero, List.set_cons_succ, i64_w, i32_w]
          rfl
        exact norm_ (by simp only [putAll, Act.put, List.setIfInBounds_toArray, List.set_cons_zero, List.set_cons_succ]) (hCont (gb144) _ ⟨hHeld, (by (with_reducible repeat (first | refine blk_drewN ?_ _ | refine blk_drew ?_ | refine blk_alloc ?_ _)); exact BK138.out), (by (with_reducible repeat (first | refine blk_drewN ?_ _ | refine blk_drew ?_ | refine blk_alloc ?_ _)); exact BK144.out), GW144.out, GE144.out, NB138_144.out, NB144_138.out, (by repeat (first | (with_reducible first | exact HB.out | apply below_alloc | apply pw_below_drewN | apply below_drew1 | refine below_set ?_ GE138.out | refine below_set ?_ GE144.out) | exact HB.out))⟩)
      · skip
        refine box_step ?hg (N := 6) ?hd (cs := #[.bool false, .int .u64 0, .int .u64 0]) (t := 36) ?hr ?_; (case hd => rfl); (case hg => rfl); (case hr => first | (go_simp; done) | (go_simp; rfl))
        intro gb144 hg w10 hbox hb
        have n0_ := Aside0.mk (blk_below (g := gb138) (o := .cells #[.bool a0_0, .int .u64 a0_1, .int .u64 a0_2] 36 (0, 0)) (by (with_reducible repeat (first | refine blk_drewN ?_ _ | refine blk_drew ?_ | refine blk_alloc ?_ _)); exact BK138.out) hb)
        have n1_ := Aside0.mk (below_step (by repeat (first | (with_reducible first | exact HB.out | apply below_alloc | apply pw_below_drewN | apply below_drew1 | refine below_set ?_ GE138.out) | exact HB.out)) hb)
        have n2_ := Aside0.mk (hbox)
        have n3_ := Aside0.mk ((by rw [hg]; exact (below_size (by repeat (first | (with_reducible first | exact HB.out | apply below_alloc | apply pw_below_drewN | apply below_drew1 | refine below_set ?_ GE138.out) | exact HB.out))) : w.heap.size ≤ gb144))
        have n4_ := Aside0.mk ((by rw [hg]; exact (below_size (by repeat (first | (with_reducible first | exact HB.out | apply below_alloc | apply pw_below_drewN | apply below_drew1 | refine below_set ?_ GE138.out) | exact HB.out))) : w.heap.size ≤ gb144))
        have n5_ := Aside0.mk ((by rw [hg]; exact Nat.ne_of_lt (blk_lt (g := gb138) (o := .cells #[.bool a0_0, .int .u64 a0_1, .int .u64 a0_2] 36 (0, 0)) (by (with_reducible repeat (first | refine blk_drewN ?_ _ | refine blk_drew ?_ | refine blk_alloc ?_ _)); exact BK138.out)) : gb138 ≠ gb144))
        have n6_ := Aside0.mk ((by rw [hg]; exact Nat.ne_of_gt (blk_lt (g := gb138) (o := .cells #[.bool a0_0, .int .u64 a0_1, .int .u64 a0_2] 36 (0, 0)) (by (with_reducible repeat (first | refine blk_drewN ?_ _ | refine blk_drew ?_ | refine blk_alloc ?_ _)); exact BK138.out)) : gb144 ≠ gb138))
        clear BK138
        clear HB
        have BK138 := n0_
        have HB := n1_
        have BK144 := n2_
        have GW144 := n3_
        have GE144 := n4_
        have NB138_144 := n5_
        have NB144_138 := n6_
        clear n0_ n1_ n2_ n3_ n4_ n5_ n6_
        clear hb hbox hg
        refine hK.out _ _ ⟨(blk_cell BK138.out 0).trans rfl, (blk_cell BK138.out 1).trans rfl, (blk_cell BK138.out 2).trans rfl⟩ (fun hHeld => ?_)
        clear hK K
        refine norm_ (a' := ?_) ?_ ?_
        rotate_left
        · show Act.put _ (some 6) _ = _
          simp only [Act.put, List.setIfInBounds_toArray, List.set_cons_zero, List.set_cons_succ, i64_w, i32_w]
          rfl
        refine one_ (i := 11) (N := some 20) #[true, true, true, true, true, true, true, true, true, true, true, true, true, false] rfl rfl (one_of HT_.out (by kernel_rfl)) (by decide) (fun K hK => ?_)
        refine goes_ Try.func19 (by kernel_rfl) rfl #[.agg #[.bool a0_0, .int .u64 t139, .int .u64 t140], .agg #[.bool false, .int .u64 0, .int .u64 a1]] (by rfl) rfl rfl (by (try simp only [List.map_toArray, List.map_cons, List.map_nil]); first | done | rfl | (simp only [List.length_drop, List.length_take]; rfl)) ?_
        with_reducible refine (ratio_signed_add.calls a0_0 t139 t140 false 0 a1 t141 t142 t143 _ A4.out).mono ?_
        rintro e w11 ⟨rfl, hb⟩
        refine ⟨_, rfl, ?_⟩
        have n0_ := Aside0.mk (blk_below (g := gb138) (o := .cells #[.bool a0_0, .int .u64 a0_1, .int .u64 a0_2] 36 (0, 0)) (by (with_reducible repeat (first | refine blk_drewN ?_ _ | refine blk_drew ?_ | refine blk_alloc ?_ _)); exact BK138.out) hb)
        have n1_ := Aside0.mk (blk_below (g := gb144) (o := .cells #[.bool false, .int .u64 0, .int .u64 0] 36 (0, 0)) (by (with_reducible repeat (first | refine blk_drewN ?_ _ | refine blk_drew ?_ | refine blk_alloc ?_ _)); exact BK144.out) hb)
        have n2_ := Aside0.mk (below_step (by repeat (first | (with_reducible first | exact HB.out | apply below_alloc | apply pw_below_drewN | apply below_drew1 | refine below_set ?_ GE138.out | refine below_set ?_ GE144.out) | exact HB.out)) hb)
        clear BK138
        clear BK144
        clear HB
        have BK138 := n0_
        have BK144 := n1_
        have HB := n2_
        clear n0_ n1_ n2_
        (try clear hb)
        (try clear hb2)
        (try clear hk)
        (try clear hi)
        refine hK.out _ _ ⟨(blk_cell BK138.out 0).trans rfl, (blk_cell BK138.out 1).trans rfl, (blk_cell BK138.out 2).trans rfl⟩ (fun hHeld => ?_)
        clear hK K
        refine norm_ (a' := ?_) ?_ ?_
        rotate_left
        · show Act.put _ (some 20) _ = _
          simp only [Act.put, List.setIfInBounds_toArray, List.set_cons_zero, List.set_cons_succ, i64_w, i32_w]
          rfl
        exact norm_ (by simp only [putAll, Act.put, List.setIfInBounds_toArray, List.set_cons_zero, List.set_cons_succ]) (hCont (gb144) _ ⟨hHeld, (by (with_reducible repeat (first | refine blk_drewN ?_ _ | refine blk_drew ?_ | refine blk_alloc ?_ _)); exact BK138.out), (by (with_reducible repeat (first | refine blk_drewN ?_ _ | refine blk_drew ?_ | refine blk_alloc ?_ _)); exact BK144.out), GW144.out, GE144.out, NB138_144.out, NB144_138.out, (by repeat (first | (with_reducible first | exact HB.out | apply below_alloc | apply pw_below_drewN | apply below_drew1 | refine below_set ?_ GE138.out | refine below_set ?_ GE144.out) | exact HB.out))⟩)
    · skip
      refine box_step ?hg (N := 6) ?hd (cs := #[.bool false, .int .u64 0, .int .u64 0]) (t := 36) ?hr ?_; (case hd => rfl); (case hg => rfl); (case hr => first | (go_simp; done) | (go_simp; rfl))
      intro gb144 hg w9 hbox hb
      have n0_ := Aside0.mk (blk_below (g := gb138) (o := .cells #[.bool a0_0, .int .u64 a0_1, .int .u64 a0_2] 36 (0, 0)) (by (with_reducible repeat (first | refine blk_drewN ?_ _ | refine blk_drew ?_ | refine blk_alloc ?_ _)); exact BK138.out) hb)
      have n1_ := Aside0.mk (below_step (by repeat (first | (with_reducible first | exact HB.out | apply below_alloc | apply pw_below_drewN | apply below_drew1 | refine below_set ?_ GE138.out) | exact HB.out)) hb)
      have n2_ := Aside0.mk (hbox)
      have n3_ := Aside0.mk ((by rw [hg]; exact (below_size (by repeat (first | (with_reducible first | exact HB.out | apply below_alloc | apply pw_below_drewN | apply below_drew1 | refine below_set ?_ GE138.out) | exact HB.out))) : w.heap.size ≤ gb144))
      have n4_ := Aside0.mk ((by rw [hg]; exact (below_size (by repeat (first | (with_reducible first | exact HB.out | apply below_alloc | apply pw_below_drewN | apply below_drew1 | refine below_set ?_ GE138.out) | exact HB.out))) : w.heap.size ≤ gb144))
      have n5_ := Aside0.mk ((by rw [hg]; exact Nat.ne_of_lt (blk_lt (g := gb138) (o := .cells #[.bool a0_0, .int .u64 a0_1, .int .u64 a0_2] 36 (0, 0)) (by (with_reducible repeat (first | refine blk_drewN ?_ _ | refine blk_drew ?_ | refine blk_alloc ?_ _)); exact BK138.out)) : gb138 ≠ gb144))
      have n6_ := Aside0.mk ((by rw [hg]; exact Nat.ne_of_gt (blk_lt (g := gb138) (o := .cells #[.bool a0_0, .int .u64 a0_1, .int .u64 a0_2] 36 (0, 0)) (by (with_reducible repeat (first | refine blk_drewN ?_ _ | refine blk_drew ?_ | refine blk_alloc ?_ _)); exact BK138.out)) : gb144 ≠ gb138))
      clear BK138
      clear HB
      have BK138 := n0_
      have HB := n1_
      have BK144 := n2_
      have GW144 := n3_
      have GE144 := n4_
      have NB138_144 := n5_
      have NB144_138 := n6_
      clear n0_ n1_ n2_ n3_ n4_ n5_ n6_
      clear hb hbox hg
      refine hK.out _ _ ⟨(blk_cell BK138.out 0).trans rfl, (blk_cell BK138.out 1).trans rfl, (blk_cell BK138.out 2).trans rfl⟩ (fun hHeld => ?_)
      clear hK K
      refine norm_ (a' := ?_) ?_ ?_
      rotate_left
      · show Act.put _ (some 6) _ = _
        simp only [Act.put, List.setIfInBounds_toArray, List.set_cons_zero, List.set_cons_succ, i64_w, i32_w]
        rfl
      refine one_ (i := 6) (N := some 15) #[true, true, true, true, true, true, true, false, true, true, true, false, true, false] rfl rfl (one_of HT_.out (by kernel_rfl)) (by decide) (fun K hK => ?_)
      refine goes_ Try.func18 (by kernel_rfl) rfl #[.agg #[.int .u64 a0_1, .int .u64 a0_2], .agg #[.int .u64 a0_1, .int .u64 a0_2]] (by rfl) rfl rfl (by (try simp only [List.map_toArray, List.map_cons, List.map_nil]); first | done | rfl | (simp only [List.length_drop, List.length_take]; rfl)) ?_
      with_reducible refine (ratio_wide_plus.calls a0_1 a0_2 a0_1 a0_2 t139 t140 _ A3.out).mono ?_
      rintro e w10 ⟨rfl, hb⟩
      refine ⟨_, rfl, ?_⟩
      have n0_ := Aside0.mk (blk_below (g := gb138) (o := .cells #[.bool a0_0, .int .u64 a0_1, .int .u64 a0_2] 36 (0, 0)) (by (with_reducible repeat (first | refine blk_drewN ?_ _ | refine blk_drew ?_ | refine blk_alloc ?_ _)); exact BK138.out) hb)
      have n1_ := Aside0.mk (blk_below (g := gb144) (o := .cells #[.bool false, .int .u64 0, .int .u64 0] 36 (0, 0)) (by (with_reducible repeat (first | refine blk_drewN ?_ _ | refine blk_drew ?_ | refine blk_alloc ?_ _)); exact BK144.out) hb)
      have n2_ := Aside0.mk (below_step (by repeat (first | (with_reducible first | exact HB.out | apply below_alloc | apply pw_below_drewN | apply below_drew1 | refine below_set ?_ GE138.out | refine below_set ?_ GE144.out) | exact HB.out)) hb)
      clear BK138
      clear BK144
      clear HB
      have BK138 := n0_
      have BK144 := n1_
      have HB := n2_
      clear n0_ n1_ n2_
      (try clear hb)
      (try clear hb2)
      (try clear hk)
      (try clear hi)
      refine hK.out _ _ ⟨(blk_cell BK138.out 0).trans rfl, (blk_cell BK138.out 1).trans rfl, (blk_cell BK138.out 2).trans rfl⟩ (fun hHeld => ?_)
      clear hK K
      refine norm_ (a' := ?_) ?_ ?_
      rotate_left
      · show Act.put _ (some 15) _ = _
        simp only [Act.put, List.setIfInBounds_toArray, List.set_cons_zero, List.set_cons_succ, i64_w, i32_w]
        rfl
      refine pure_ (i := 7) (N := some 16) (v := ?_) (a' := ?_) #[true, true, true, true, true, true, true, true, true, true, true, false, true, false] rfl rfl (any_of HT_.out (by kernel_rfl)) (fun _ _ _ h => h) (Or.inl ⟨by rfl, ?_⟩) ?_ ?_
      rotate_left
      · intro w'
        go_simp
        with_reducible rfl
      rotate_left
      · simp only [Act.put, List.setIfInBounds_toArray, List.set_cons_zero, List.set_cons_succ, i64_w, i32_w]
        rfl
      refine one_ (i := 11) (N := some 20) #[true, true, true, true, true, true, true, true, true, true, true, true, true, false] rfl rfl (one_of HT_.out (by kernel_rfl)) (by decide) (fun K hK => ?_)
      refine goes_ Try.func19 (by kernel_rfl) rfl #[.agg #[.bool a0_0, .int .u64 t139, .int .u64 t140], .agg #[.bool false, .int .u64 0, .int .u64 a1]] (by rfl) rfl rfl (by (try simp only [List.map_toArray, List.map_cons, List.map_nil]); first | done | rfl | (simp only [List.length_drop, List.length_take]; rfl)) ?_
      with_reducible refine (ratio_signed_add.calls a0_0 t139 t140 false 0 a1 t141 t142 t143 _ A4.out).mono ?_
      rintro e w11 ⟨rfl, hb⟩
      refine ⟨_, rfl, ?_⟩
      have n0_ := Aside0.mk (blk_below (g := gb138) (o := .cells #[.bool a0_0, .int .u64 a0_1, .int .u64 a0_2] 36 (0, 0)) (by (with_reducible repeat (first | refine blk_drewN ?_ _ | refine blk_drew ?_ | refine blk_alloc ?_ _)); exact BK138.out) hb)
      have n1_ := Aside0.mk (blk_below (g := gb144) (o := .cells #[.bool false, .int .u64 0, .int .u64 0] 36 (0, 0)) (by (with_reducible repeat (first | refine blk_drewN ?_ _ | refine blk_drew ?_ | refine blk_alloc ?_ _)); exact BK144.out) hb)
      have n2_ := Aside0.mk (below_step (by repeat (first | (with_reducible first | exact HB.out | apply below_alloc | apply pw_below_drewN | apply below_drew1 | refine below_set ?_ GE138.out | refine below_set ?_ GE144.out) | exact HB.out)) hb)
      clear BK138
      clear BK144
      clear HB
      have BK138 := n0_
      have BK144 := n1_
      have HB := n2_
      clear n0_ n1_ n2_
      (try clear hb)
      (try clear hb2)
      (try clear hk)
      (try clear hi)
      refine hK.out _ _ ⟨(blk_cell BK138.out 0).trans rfl, (blk_cell BK138.out 1).trans rfl, (blk_cell BK138.out 2).trans rfl⟩ (fun hHeld => ?_)
      clear hK K
      refine norm_ (a' := ?_) ?_ ?_
      rotate_left
      · show Act.put _ (some 20) _ = _
        simp only [Act.put, List.setIfInBounds_toArray, List.set_cons_zero, List.set_cons_succ, i64_w, i32_w]
        rfl
      exact norm_ (by simp only [putAll, Act.put, List.setIfInBounds_toArray, List.set_cons_zero, List.set_cons_succ]) (hCont (gb144) _ ⟨hHeld, (by (with_reducible repeat (first | refine blk_drewN ?_ _ | refine blk_drew ?_ | refine blk_alloc ?_ _)); exact BK138.out), (by (with_reducible repeat (first | refine blk_drewN ?_ _ | refine blk_drew ?_ | refine blk_alloc ?_ _)); exact BK144.out), GW144.out, GE144.out, NB138_144.out, NB144_138.out, (by repeat (first | (with_reducible first | exact HB.out | apply below_alloc | apply pw_below_drewN | apply below_drew1 | refine below_set ?_ GE138.out | refine below_set ?_ GE144.out) | exact HB.out))⟩)
  rintro gb144 w12 ⟨hS_, h0_, h1_, h2_, h3_, h4_, h5_, h6_⟩
  have n0_ : Aside0 (w12.heap[gb138]? = some (.cells #[.bool a0_0, .int .u64 a0_1, .int .u64 a0_2] 36 (0, 0))) := ⟨h0_⟩
  have n1_ : Aside0 (w12.heap[gb144]? = some (.cells #[.bool false, .int .u64 0, .int .u64 0] 36 (0, 0))) := ⟨h1_⟩
  have n2_ : Aside0 (w.heap.size ≤ gb144) := ⟨h2_⟩
  have n3_ : Aside0 (w.heap.size ≤ gb144) := ⟨h3_⟩
  have n4_ : Aside0 (gb138 ≠ gb144) := ⟨h4_⟩
  have n5_ : Aside0 (gb144 ≠ gb138) := ⟨h5_⟩
  have n6_ : Aside0 (Below w.heap.size w w12) := ⟨h6_⟩
  clear BK138
  clear HB
  clear h0_ h1_ h2_ h3_ h4_ h5_ h6_
  have BK138 := n0_
  have BK144 := n1_
  have GW144 := n2_
  have GE144 := n3_
  have NB138_144 := n4_
  have NB144_138 := n5_
  have HB := n6_
  clear n0_ n1_ n2_ n3_ n4_ n5_ n6_
  have hHeld : w12.cell? ⟨gb138, 0, none⟩ = some (.bool a0_0) ∧ w12.cell? ⟨gb138, 1, none⟩ = some (.int .u64 a0_1) ∧ w12.cell? ⟨gb138, 2, none⟩ = some (.int .u64 a0_2) := hS_
  refine norm_ (a' := ?_) ?_ ?_
  rotate_left
  · simp only [putAll, Act.put, List.setIfInBounds_toArray, List.set_cons_zero, List.set_cons_succ]
    rfl
  refine one_ (i := 13) (N := none) #[true, true, true, true, true, true, true, true, true, true, true, true, true, true] rfl rfl (one_of HT_.out (by kernel_rfl)) (by decide) (fun K hK => ?_)
  have hs13 : w12.cell? ⟨gb144, 0, none⟩ = some (.bool false) := (blk_cell BK144.out 0).trans rfl
  have hfs13 := blk_frozen BK144.out 0
  have hns13_0 := NB138_144.out
  have hms13_0 := NB144_138.out
  have hs14 : w12.cell? ⟨gb144, 1, none⟩ = some (.int .u64 0) := (blk_cell BK144.out 1).trans rfl
  have hfs14 := blk_frozen BK144.out 1
  have hns14_0 := NB138_144.out
  have hms14_0 := NB144_138.out
  have hs15 : w12.cell? ⟨gb144, 2, none⟩ = some (.int .u64 0) := (blk_cell BK144.out 2).trans rfl
  have hfs15 := blk_frozen BK144.out 2
  have hns15_0 := NB138_144.out
  have hms15_0 := NB144_138.out
  refine skip_ (w1 := ?_) (by rfl) rfl ?_ ?_
  rotate_left
  · go_simp
    rfl
  refine hK.out _ _ ⟨((cell_far (p := ⟨gb144, _, none⟩) NB138_144.out _).trans (((cell_far (p := ⟨gb144, _, none⟩) NB138_144.out _).trans (((cell_far (p := ⟨gb144, _, none⟩) NB138_144.out _).trans (hHeld.1)))))), ((cell_far (p := ⟨gb144, _, none⟩) NB138_144.out _).trans (((cell_far (p := ⟨gb144, _, none⟩) NB138_144.out _).trans (((cell_far (p := ⟨gb144, _, none⟩) NB138_144.out _).trans (hHeld.2.1)))))), ((cell_far (p := ⟨gb144, _, none⟩) NB138_144.out _).trans (((cell_far (p := ⟨gb144, _, none⟩) NB138_144.out _).trans (((cell_far (p := ⟨gb144, _, none⟩) NB138_144.out _).trans (hHeld.2.2))))))⟩ (fun hHeld => ?_)
  clear hK K
  refine done_ (done_of HT_.out (by kernel_rfl)) ?_
  have hnb16 := NB144_138.out
  have hnc16 := NB138_144.out
  have hcz17_0 : w12.cell? ⟨gb144, 0, none⟩ = some (.bool false) := (blk_cell BK144.out 0).trans rfl
  have hcz17_1 : w12.cell? ⟨gb144, 1, none⟩ = some (.int .u64 0) := (blk_cell BK144.out 1).trans rfl
  have hcz17_2 : w12.cell? ⟨gb144, 2, none⟩ = some (.int .u64 0) := (blk_cell BK144.out 2).trans rfl
  have hfz17_0 := blk_frozen BK144.out 0
  have hfz17_1 := blk_frozen BK144.out 1
  have hfz17_2 := blk_frozen BK144.out 2
  go_upto_region 3 with (first | ((with_reducible refine gate_callee (f := 20) rfl ?_); refine goesL_ (some 24) rfl rfl Try.func20 (by kernel_rfl) rfl #[.agg #[.int .u64 t142, .int .u64 t143], .int .u64 2] rfl (by (try simp only [List.map_toArray, List.map_cons, List.map_nil]); first | done | rfl | (simp only [List.length_drop, List.length_take]; rfl)) ?_; (with_reducible refine (ratio_wide_by.calls k t142 t143 2 t145 t146 t147 _ A5.out).mono ?_); rintro e w18 ⟨rfl, hb⟩; refine ⟨_, rfl, ?_⟩; have n0_ := Aside0.mk (blk_below (g := gb138) (o := .cells #[.bool a0_0, .int .u64 a0_1, .int .u64 a0_2] 36 (0, 0)) (by (with_reducible repeat (first | refine blk_drewN ?_ _ | refine blk_drew ?_ | refine blk_alloc ?_ _)); refine blk_far ?_ NB138_144.out _; (with_reducible repeat (first | refine blk_drewN ?_ _ | refine blk_drew ?_ | refine blk_alloc ?_ _)); refine blk_far ?_ NB138_144.out _; (with_reducible repeat (first | refine blk_drewN ?_ _ | refine blk_drew ?_ | refine blk_alloc ?_ _)); refine blk_far ?_ NB138_144.out _; (with_reducible repeat (first | refine blk_drewN ?_ _ | refine blk_drew ?_ | refine blk_alloc ?_ _)); exact BK138.out) hb); have n1_ := Aside0.mk (blk_below (g := gb144) (o := .cells #[.bool t141, .int .u64 t142, .int .u64 t143] 36 (0, 0)) (by (with_reducible repeat (first | refine blk_drewN ?_ _ | refine blk_drew ?_ | refine blk_alloc ?_ _)); refine blk_put (cs := #[.bool t141, .int .u64 t142, .int .u64 0]) ?_ 2 _ rfl; (with_reducible repeat (first | refine blk_drewN ?_ _ | refine blk_drew ?_ | refine blk_alloc ?_ _)); refine blk_put (cs := #[.bool t141, .int .u64 0, .int .u64 0]) ?_ 1 _ rfl; (with_reducible repeat (first | refine blk_drewN ?_ _ | refine blk_drew ?_ | refine blk_alloc ?_ _)); refine blk_put (cs := #[.bool false, .int .u64 0, .int .u64 0]) ?_ 0 _ rfl; (with_reducible repeat (first | refine blk_drewN ?_ _ | refine blk_drew ?_ | refine blk_alloc ?_ _)); exact BK144.out) hb); have n2_ := Aside0.mk (below_step (by repeat (first | (with_reducible first | exact HB.out | apply below_alloc | apply pw_below_drewN | apply below_drew1 | refine below_set ?_ GE138.out | refine below_set ?_ GE144.out) | exact HB.out)) hb); clear BK138; clear BK144; clear HB; have BK138 := n0_; have BK144 := n1_; have HB := n2_; clear n0_ n1_ n2_; (try clear hb); (try clear hb2); (try clear hk); (try clear hi)) | ((with_reducible refine gate_dst (N := 7) rfl ?_); refine box_event ?hg (N := 7) ?hd (cs := #[.int .u64 0, .int .u64 0]) (t := 34) ?hr ?_; (case hd => rfl); (case hg => rfl); (case hr => first | (go_simp; done) | (go_simp; rfl)); intro gb148 hg w19 hbox hb; have n0_ := Aside0.mk (blk_below (g := gb138) (o := .cells #[.bool a0_0, .int .u64 a0_1, .int .u64 a0_2] 36 (0, 0)) (by (with_reducible repeat (first | refine blk_drewN ?_ _ | refine blk_drew ?_ | refine blk_alloc ?_ _)); exact BK138.out) hb); have n1_ := Aside0.mk (blk_below (g := gb144) (o := .cells #[.bool t141, .int .u64 t142, .int .u64 t143] 36 (0, 0)) (by (with_reducible repeat (first | refine blk_drewN ?_ _ | refine blk_drew ?_ | refine blk_alloc ?_ _)); exact BK144.out) hb); have n2_ := Aside0.mk (below_step (by repeat (first | (with_reducible first | exact HB.out | apply below_alloc | apply pw_below_drewN | apply below_drew1 | refine below_set ?_ GE138.out | refine below_set ?_ GE144.out) | exact HB.out)) hb); have n3_ := Aside0.mk (hbox); have n4_ := Aside0.mk ((by rw [hg]; exact (below_size (by repeat (first | (with_reducible first | exact HB.out | apply below_alloc | apply pw_below_drewN | apply below_drew1 | refine below_set ?_ GE138.out | refine below_set ?_ GE144.out) | exact HB.out))) : w.heap.size ≤ gb148)); have n5_ := Aside0.mk ((by rw [hg]; exact (below_size (by repeat (first | (with_reducible first | exact HB.out | apply below_alloc | apply pw_below_drewN | apply below_drew1 | refine below_set ?_ GE138.out | refine below_set ?_ GE144.out) | exact HB.out))) : w.heap.size ≤ gb148)); have n6_ := Aside0.mk ((by rw [hg]; exact Nat.ne_of_lt (blk_lt (g := gb138) (o := .cells #[.bool a0_0, .int .u64 a0_1, .int .u64 a0_2] 36 (0, 0)) (by (with_reducible repeat (first | refine blk_drewN ?_ _ | refine blk_drew ?_ | refine blk_alloc ?_ _)); exact BK138.out)) : gb138 ≠ gb148)); have n7_ := Aside0.mk ((by rw [hg]; exact Nat.ne_of_gt (blk_lt (g := gb138) (o := .cells #[.bool a0_0, .int .u64 a0_1, .int .u64 a0_2] 36 (0, 0)) (by (with_reducible repeat (first | refine blk_drewN ?_ _ | refine blk_drew ?_ | refine blk_alloc ?_ _)); exact BK138.out)) : gb148 ≠ gb138)); have n8_ := Aside0.mk ((by rw [hg]; exact Nat.ne_of_lt (blk_lt (g := gb144) (o := .cells #[.bool t141, .int .u64 t142, .int .u64 t143] 36 (0, 0)) (by (with_reducible repeat (first | refine blk_drewN ?_ _ | refine blk_drew ?_ | refine blk_alloc ?_ _)); exact BK144.out)) : gb144 ≠ gb148)); have n9_ := Aside0.mk ((by rw [hg]; exact Nat.ne_of_gt (blk_lt (g := gb144) (o := .cells #[.bool t141, .int .u64 t142, .int .u64 t143] 36 (0, 0)) (by (with_reducible repeat (first | refine blk_drewN ?_ _ | refine blk_drew ?_ | refine blk_alloc ?_ _)); exact BK144.out)) : gb148 ≠ gb144)); clear BK138; clear BK144; clear HB; have BK138 := n0_; have BK144 := n1_; have HB := n2_; have BK148 := n3_; have GW148 := n4_; have GE148 := n5_; have NB138_148 := n6_; have NB148_138 := n7_; have NB144_148 := n8_; have NB148_144 := n9_; clear n0_ n1_ n2_ n3_ n4_ n5_ n6_ n7_ n8_ n9_; clear hb hbox hg; have hnb20 := NB148_138.out; have hnc20 := NB138_148.out; have hnb21 := NB148_144.out; have hnc21 := NB144_148.out; have hcz22_0 : w19.cell? ⟨gb148, 0, none⟩ = some (.int .u64 0) := (blk_cell BK148.out 0).trans rfl; have hcz22_1 : w19.cell? ⟨gb148, 1, none⟩ = some (.int .u64 0) := (blk_cell BK148.out 1).trans rfl; have hfz22_0 := blk_frozen BK148.out 0; have hfz22_1 := blk_frozen BK148.out 1))
  (try simp only [Act.put, List.setIfInBounds_toArray, List.set_cons_zero, List.set_cons_succ])
  go_cut [32] (fun v32 wc => ∃ (kq : Nat) (x32_5 : Bool), v32 = .bool x32_5 ∧ Aside0 (ratio_half.j0 kq a1 x32_5 t141 t142 t143 t145 t146 = some (r1, r2)) ∧ Aside0 (kq ≤ k) ∧ Aside0 (wc.heap[gb138]? = some (.cells #[.bool a0_0, .int .u64 a0_1, .int .u64 a0_2] 36 (0, 0))) ∧ Aside0 (wc.heap[gb144]? = some (.cells #[.bool t141, .int .u64 t142, .int .u64 t143] 36 (0, 0))) ∧ Aside0 (wc.heap[gb148]? = some (.cells #[.int .u64 t145, .int .u64 t146] 34 (0, 0))) ∧ Aside0 (Below w.heap.size w wc))
  case first =>
    have H := HC6.out
    clear HC6
    by_cases c23 : t141 = true
    · subst c23
      have H1 : (ratio_half.j0 k a1 (t147 != 0) true t142 t143 t145 t146) = some (r1, r2) := by rw [if_pos rfl] at H; exact H
      clear H
      have H := H1
      clear H1
      have H' := Aside0.mk H
      clear H
      have hnb24 := NB144_138.out
      have hnc24 := NB138_144.out
      have hnb25 := NB144_148.out
      have hnc25 := NB148_144.out
      have hcz26_0 : w19.cell? ⟨gb144, 0, none⟩ = some (.bool true) := (blk_cell BK144.out 0).trans rfl
      have hcz26_1 : w19.cell? ⟨gb144, 1, none⟩ = some (.int .u64 t142) := (blk_cell BK144.out 1).trans rfl
      have hcz26_2 : w19.cell? ⟨gb144, 2, none⟩ = some (.int .u64 t143) := (blk_cell BK144.out 2).trans rfl
      have hfz26_0 := blk_frozen BK144.out 0
      have hfz26_1 := blk_frozen BK144.out 1
      have hfz26_2 := blk_frozen BK144.out 2
      go_wp2
      go_meet
      case rel => exact ⟨_, ((t147 != 0)), (by first | rfl | (simp; done) | (simp [*]; done)), H', ⟨by first | omega | exact Nat.le_refl _⟩, ⟨by (with_reducible repeat (first | refine blk_drewN ?_ _ | refine blk_drew ?_ | refine blk_alloc ?_ _)); refine blk_far ?_ NB138_148.out _; (with_reducible repeat (first | refine blk_drewN ?_ _ | refine blk_drew ?_ | refine blk_alloc ?_ _)); refine blk_far ?_ NB138_148.out _; (with_reducible repeat (first | refine blk_drewN ?_ _ | refine blk_drew ?_ | refine blk_alloc ?_ _)); exact BK138.out⟩, ⟨by (with_reducible repeat (first | refine blk_drewN ?_ _ | refine blk_drew ?_ | refine blk_alloc ?_ _)); refine blk_far ?_ NB144_148.out _; (with_reducible repeat (first | refine blk_drewN ?_ _ | refine blk_drew ?_ | refine blk_alloc ?_ _)); refine blk_far ?_ NB144_148.out _; (with_reducible repeat (first | refine blk_drewN ?_ _ | refine blk_drew ?_ | refine blk_alloc ?_ _)); exact BK144.out⟩, ⟨by (with_reducible repeat (first | refine blk_drewN ?_ _ | refine blk_drew ?_ | refine blk_alloc ?_ _)); refine blk_put (cs := #[.int .u64 t145, .int .u64 0]) ?_ 1 _ rfl; (with_reducible repeat (first | refine blk_drewN ?_ _ | refine blk_drew ?_ | refine blk_alloc ?_ _)); refine blk_put (cs := #[.int .u64 0, .int .u64 0]) ?_ 0 _ rfl; (with_reducible repeat (first | refine blk_drewN ?_ _ | refine blk_drew ?_ | refine blk_alloc ?_ _)); exact BK148.out⟩, ⟨by repeat (first | (with_reducible first | exact HB.out | apply below_alloc | apply pw_below_drewN | apply below_drew1 | refine below_set ?_ GE138.out | refine below_set ?_ GE144.out | refine below_set ?_ GE148.out) | exact HB.out)⟩⟩
    · replace c23 := Bool.eq_false_iff.mpr c23
      subst c23
      have H1 : (ratio_half.j0 k a1 false false t142 t143 t145 t146) = some (r1, r2) := by rw [if_neg (show ¬ (false = true) by decide)] at H; exact H
      clear H
      have H := H1
      clear H1
      have H' := Aside0.mk H
      clear H
      have hnb27 := NB144_138.out
      have hnc27 := NB138_144.out
      have hnb28 := NB144_148.out
      have hnc28 := NB148_144.out
      have hcz29_0 : w19.cell? ⟨gb144, 0, none⟩ = some (.bool false) := (blk_cell BK144.out 0).trans rfl
      have hcz29_1 : w19.cell? ⟨gb144, 1, none⟩ = some (.int .u64 t142) := (blk_cell BK144.out 1).trans rfl
      have hcz29_2 : w19.cell? ⟨gb144, 2, none⟩ = some (.int .u64 t143) := (blk_cell BK144.out 2).trans rfl
      have hfz29_0 := blk_frozen BK144.out 0
      have hfz29_1 := blk_frozen BK144.out 1
      have hfz29_2 := blk_frozen BK144.out 2
      go_wp2
      go_meet
      case rel => exact ⟨_, (false), (by first | rfl | (simp; done) | (simp [*]; done)), H', ⟨by first | omega | exact Nat.le_refl _⟩, ⟨by (with_reducible repeat (first | refine blk_drewN ?_ _ | refine blk_drew ?_ | refine blk_alloc ?_ _)); refine blk_far ?_ NB138_148.out _; (with_reducible repeat (first | refine blk_drewN ?_ _ | refine blk_drew ?_ | refine blk_alloc ?_ _)); refine blk_far ?_ NB138_148.out _; (with_reducible repeat (first | refine blk_drewN ?_ _ | refine blk_drew ?_ | refine blk_alloc ?_ _)); exact BK138.out⟩, ⟨by (with_reducible repeat (first | refine blk_drewN ?_ _ | refine blk_drew ?_ | refine blk_alloc ?_ _)); refine blk_far ?_ NB144_148.out _; (with_reducible repeat (first | refine blk_drewN ?_ _ | refine blk_drew ?_ | refine blk_alloc ?_ _)); refine blk_far ?_ NB144_148.out _; (with_reducible repeat (first | refine blk_drewN ?_ _ | refine blk_drew ?_ | refine blk_alloc ?_ _)); exact BK144.out⟩, ⟨by (with_reducible repeat (first | refine blk_drewN ?_ _ | refine blk_drew ?_ | refine blk_alloc ?_ _)); refine blk_put (cs := #[.int .u64 t145, .int .u64 0]) ?_ 1 _ rfl; (with_reducible repeat (first | refine blk_drewN ?_ _ | refine blk_drew ?_ | refine blk_alloc ?_ _)); refine blk_put (cs := #[.int .u64 0, .int .u64 0]) ?_ 0 _ rfl; (with_reducible repeat (first | refine blk_drewN ?_ _ | refine blk_drew ?_ | refine blk_alloc ?_ _)); exact BK148.out⟩, ⟨by repeat (first | (with_reducible first | exact HB.out | apply below_alloc | apply pw_below_drewN | apply below_drew1 | refine below_set ?_ GE138.out | refine below_set ?_ GE144.out | refine below_set ?_ GE148.out) | exact HB.out)⟩⟩
  case rest =>
    clear HC6
    try clear c1
    try clear c2
    try clear p2
    try clear c11
    try clear c16
    try clear c18
    try clear c19
    try clear c20
    try clear c21
    try clear c23
    try clear c24
    try clear c25
    try clear c27
    try clear c28
    try clear hcz17_0
    try clear hcz17_1
    try clear hcz17_2
    try clear hcz22_0
    try clear hcz22_1
    try clear hcz26_0
    try clear hcz26_1
    try clear hcz26_2
    try clear hcz29_0
    try clear hcz29_1
    try clear hcz29_2
    try clear hfz17_0
    try clear hfz17_1
    try clear hfz17_2
    try clear hfz22_0
    try clear hfz22_1
    try clear hfz26_0
    try clear hfz26_1
    try clear hfz26_2
    try clear hfz29_0
    try clear hfz29_1
    try clear hfz29_2
    obtain ⟨kq, x32_5, rfl, HA, HJ5, BK138, BK144, BK148, HB⟩ := hcut
    cases kq with
    | zero => exact absurd HA.out (by simp [ratio_half.j0])
    | succ kj5 =>
      have H := HA.out
      clear HA
      simp only [ratio_half.j0] at H
      by_cases c30 : x32_5 = true
      · subst c30
        have H1 : ((ratio_wide_plus.f t145 t146 0 1).bind fun bt149 => ((ratio_floor.f kj5 t141 bt149.1 bt149.2 a1).bind fun bt151 => (some (bt151.1, bt151.2)))) = some (r1, r2) := by rw [if_pos rfl] at H; exact H
        clear H
        have H := H1
        clear H1
        replace H := Option.bind_eq_some_iff.mp H
        obtain ⟨⟨t149, t150⟩, A310, H⟩ := H
        replace H : ((ratio_floor.f kj5 t141 t149 t150 a1).bind fun bt151 => (some (bt151.1, bt151.2))) = some (r1, r2) := H
        have A31 := Aside0.mk A310
        clear A310
        replace H := Option.bind_eq_some_iff.mp H
        obtain ⟨⟨t151, t152⟩, A320, H⟩ := H
        replace H : (some (t151, t152)) = some (r1, r2) := H
        have A32 := Aside0.mk A320
        clear A320
        simp only [Option.some.injEq, Prod.mk.injEq] at H
        obtain ⟨rfl, rfl⟩ := H
        have hnb33 := NB148_138.out
        have hnc33 := NB138_148.out
        have hnb34 := NB148_144.out
        have hnc34 := NB144_148.out
        have hcz35_0 : wc.cell? ⟨gb148, 0, none⟩ = some (.int .u64 t145) := (blk_cell BK148.out 0).trans rfl
        have hcz35_1 : wc.cell? ⟨gb148, 1, none⟩ = some (.int .u64 t146) := (blk_cell BK148.out 1).trans rfl
        have hfz35_0 := blk_frozen BK148.out 0
        have hfz35_1 := blk_frozen BK148.out 1
        go_wp2_with (first | ((with_reducible refine gate_callee (f := 18) rfl ?_); refine goesL_ (some 35) rfl rfl Try.func18 (by kernel_rfl) rfl #[.agg #[.int .u64 t145, .int .u64 t146], .agg #[.int .u64 0, .int .u64 1]] rfl (by (try simp only [List.map_toArray, List.map_cons, List.map_nil]); first | done | rfl | (simp only [List.length_drop, List.length_take]; rfl)) ?_; (with_reducible refine (ratio_wide_plus.calls t145 t146 0 1 t149 t150 _ A31.out).mono ?_); rintro e w36 ⟨rfl, hb⟩; refine ⟨_, rfl, ?_⟩; have n0_ := Aside0.mk (blk_below (g := gb138) (o := .cells #[.bool a0_0, .int .u64 a0_1, .int .u64 a0_2] 36 (0, 0)) (by (with_reducible repeat (first | refine blk_drewN ?_ _ | refine blk_drew ?_ | refine blk_alloc ?_ _)); exact BK138.out) hb); have n1_ := Aside0.mk (blk_below (g := gb144) (o := .cells #[.bool t141, .int .u64 t142, .int .u64 t143] 36 (0, 0)) (by (with_reducible repeat (first | refine blk_drewN ?_ _ | refine blk_drew ?_ | refine blk_alloc ?_ _)); exact BK144.out) hb); have n2_ := Aside0.mk (blk_below (g := gb148) (o := .cells #[.int .u64 t145, .int .u64 t146] 34 (0, 0)) (by (with_reducible repeat (first | refine blk_drewN ?_ _ | refine blk_drew ?_ | refine blk_alloc ?_ _)); exact BK148.out) hb); have n3_ := Aside0.mk (below_step (by repeat (first | (with_reducible first | exact HB.out | apply below_alloc | apply pw_below_drewN | apply below_drew1 | refine below_set ?_ GE138.out | refine below_set ?_ GE144.out | refine below_set ?_ GE148.out) | exact HB.out)) hb); clear BK138; clear BK144; clear BK148; clear HB; have BK138 := n0_; have BK144 := n1_; have BK148 := n2_; have HB := n3_; clear n0_ n1_ n2_ n3_; (try clear hb); (try clear hb2); (try clear hk); (try clear hi); have hcz37_0 : w36.cell? ⟨gb148, 0, none⟩ = some (.int .u64 t145) := (blk_cell BK148.out 0).trans rfl; have hcz37_1 : w36.cell? ⟨gb148, 1, none⟩ = some (.int .u64 t146) := (blk_cell BK148.out 1).trans rfl; have hfz37_0 := blk_frozen BK148.out 0; have hfz37_1 := blk_frozen BK148.out 1; have hnb38 := NB144_138.out; have hnc38 := NB138_144.out; have hcz39_0 : w36.cell? ⟨gb144, 0, none⟩ = some (.bool t141) := (blk_cell BK144.out 0).trans rfl; have hcz39_1 : w36.cell? ⟨gb144, 1, none⟩ = some (.int .u64 t142) := (blk_cell BK144.out 1).trans rfl; have hcz39_2 : w36.cell? ⟨gb144, 2, none⟩ = some (.int .u64 t143) := (blk_cell BK144.out 2).trans rfl; have hfz39_0 := blk_frozen BK144.out 0; have hfz39_1 := blk_frozen BK144.out 1; have hfz39_2 := blk_frozen BK144.out 2) | ((with_reducible refine gate_callee (f := 21) rfl ?_); refine goesL_ (some 41) rfl rfl Try.func21 (by kernel_rfl) rfl #[.agg #[.bool t141, .int .u64 t149, .int .u64 t150], .int .u64 a1] rfl (by (try simp only [List.map_toArray, List.map_cons, List.map_nil]); first | done | rfl | (simp only [List.length_drop, List.length_take]; rfl)) ?_; (with_reducible refine (ratio_floor.calls kj5 t141 t149 t150 a1 t151 t152 _ A32.out).mono ?_); rintro e w40 ⟨rfl, hb⟩; refine ⟨_, rfl, ?_⟩; have n0_ := Aside0.mk (blk_below (g := gb138) (o := .cells #[.bool a0_0, .int .u64 a0_1, .int .u64 a0_2] 36 (0, 0)) (by (with_reducible repeat (first | refine blk_drewN ?_ _ | refine blk_drew ?_ | refine blk_alloc ?_ _)); refine blk_far ?_ NB138_148.out _; (with_reducible repeat (first | refine blk_drewN ?_ _ | refine blk_drew ?_ | refine blk_alloc ?_ _)); refine blk_far ?_ NB138_148.out _; (with_reducible repeat (first | refine blk_drewN ?_ _ | refine blk_drew ?_ | refine blk_alloc ?_ _)); exact BK138.out) hb); have n1_ := Aside0.mk (blk_below (g := gb144) (o := .cells #[.bool t141, .int .u64 t142, .int .u64 t143] 36 (0, 0)) (by (with_reducible repeat (first | refine blk_drewN ?_ _ | refine blk_drew ?_ | refine blk_alloc ?_ _)); refine blk_far ?_ NB144_148.out _; (with_reducible repeat (first | refine blk_drewN ?_ _ | refine blk_drew ?_ | refine blk_alloc ?_ _)); refine blk_far ?_ NB144_148.out _; (with_reducible repeat (first | refine blk_drewN ?_ _ | refine blk_drew ?_ | refine blk_alloc ?_ _)); exact BK144.out) hb); have n2_ := Aside0.mk (blk_below (g := gb148) (o := .cells #[.int .u64 t149, .int .u64 t150] 34 (0, 0)) (by (with_reducible repeat (first | refine blk_drewN ?_ _ | refine blk_drew ?_ | refine blk_alloc ?_ _)); refine blk_put (cs := #[.int .u64 t149, .int .u64 t146]) ?_ 1 _ rfl; (with_reducible repeat (first | refine blk_drewN ?_ _ | refine blk_drew ?_ | refine blk_alloc ?_ _)); refine blk_put (cs := #[.int .u64 t145, .int .u64 t146]) ?_ 0 _ rfl; (with_reducible repeat (first | refine blk_drewN ?_ _ | refine blk_drew ?_ | refine blk_alloc ?_ _)); exact BK148.out) hb); have n3_ := Aside0.mk (below_step (by repeat (first | (with_reducible first | exact HB.out | apply below_alloc | apply pw_below_drewN | apply below_drew1 | refine below_set ?_ GE138.out | refine below_set ?_ GE144.out | refine below_set ?_ GE148.out) | exact HB.out)) hb); clear BK138; clear BK144; clear BK148; clear HB; have BK138 := n0_; have BK144 := n1_; have BK148 := n2_; have HB := n3_; clear n0_ n1_ n2_ n3_; (try clear hb); (try clear hb2); (try clear hk); (try clear hi)))
        go_ret2
        exact ⟨by first | rfl | (simp [errW_none, errW_some] <;> rfl) | (simp [*, errW_none, errW_some] <;> rfl), by repeat (first | (with_reducible first | exact HB.out | apply below_alloc | apply pw_below_drewN | apply below_drew1 | refine below_set ?_ GE138.out | refine below_set ?_ GE144.out | refine below_set ?_ GE148.out) | exact HB.out)⟩
      · replace c30 := Bool.eq_false_iff.mpr c30
        subst c30
        have H1 : ((ratio_floor.f kj5 t141 t145 t146 a1).bind fun bt153 => (some (bt153.1, bt153.2))) = some (r1, r2) := by rw [if_neg (show ¬ (false = true) by decide)] at H; exact H
        clear H
        have H := H1
        clear H1
        replace H := Option.bind_eq_some_iff.mp H
        obtain ⟨⟨t153, t154⟩, A410, H⟩ := H
        replace H : (some (t153, t154)) = some (r1, r2) := H
        have A41 := Aside0.mk A410
        clear A410
        simp only [Option.some.injEq, Prod.mk.injEq] at H
        obtain ⟨rfl, rfl⟩ := H
        have hnb42 := NB144_138.out
        have hnc42 := NB138_144.out
        have hnb43 := NB144_148.out
        have hnc43 := NB148_144.out
        have hcz44_0 : wc.cell? ⟨gb144, 0, none⟩ = some (.bool t141) := (blk_cell BK144.out 0).trans rfl
        have hcz44_1 : wc.cell? ⟨gb144, 1, none⟩ = some (.int .u64 t142) := (blk_cell BK144.out 1).trans rfl
        have hcz44_2 : wc.cell? ⟨gb144, 2, none⟩ = some (.int .u64 t143) := (blk_cell BK144.out 2).trans rfl
        have hfz44_0 := blk_frozen BK144.out 0
        have hfz44_1 := blk_frozen BK144.out 1
        have hfz44_2 := blk_frozen BK144.out 2
        have hnb45 := NB148_138.out
        have hnc45 := NB138_148.out
        have hcz46_0 : wc.cell? ⟨gb148, 0, none⟩ = some (.int .u64 t145) := (blk_cell BK148.out 0).trans rfl
        have hcz46_1 : wc.cell? ⟨gb148, 1, none⟩ = some (.int .u64 t146) := (blk_cell BK148.out 1).trans rfl
        have hfz46_0 := blk_frozen BK148.out 0
        have hfz46_1 := blk_frozen BK148.out 1
        go_wp2_with (first | ((with_reducible refine gate_callee (f := 21) rfl ?_); refine goesL_ (some 41) rfl rfl Try.func21 (by kernel_rfl) rfl #[.agg #[.bool t141, .int .u64 t145, .int .u64 t146], .int .u64 a1] rfl (by (try simp only [List.map_toArray, List.map_cons, List.map_nil]); first | done | rfl | (simp only [List.length_drop, List.length_take]; rfl)) ?_; (with_reducible refine (ratio_floor.calls kj5 t141 t145 t146 a1 t153 t154 _ A41.out).mono ?_); rintro e w47 ⟨rfl, hb⟩; refine ⟨_, rfl, ?_⟩; have n0_ := Aside0.mk (blk_below (g := gb138) (o := .cells #[.bool a0_0, .int .u64 a0_1, .int .u64 a0_2] 36 (0, 0)) (by (with_reducible repeat (first | refine blk_drewN ?_ _ | refine blk_drew ?_ | refine blk_alloc ?_ _)); exact BK138.out) hb); have n1_ := Aside0.mk (blk_below (g := gb144) (o := .cells #[.bool t141, .int .u64 t142, .int .u64 t143] 36 (0, 0)) (by (with_reducible repeat (first | refine blk_drewN ?_ _ | refine blk_drew ?_ | refine blk_alloc ?_ _)); exact BK144.out) hb); have n2_ := Aside0.mk (blk_below (g := gb148) (o := .cells #[.int .u64 t145, .int .u64 t146] 34 (0, 0)) (by (with_reducible repeat (first | refine blk_drewN ?_ _ | refine blk_drew ?_ | refine blk_alloc ?_ _)); exact BK148.out) hb); have n3_ := Aside0.mk (below_step (by repeat (first | (with_reducible first | exact HB.out | apply below_alloc | apply pw_below_drewN | apply below_drew1 | refine below_set ?_ GE138.out | refine below_set ?_ GE144.out | refine below_set ?_ GE148.out) | exact HB.out)) hb); clear BK138; clear BK144; clear BK148; clear HB; have BK138 := n0_; have BK144 := n1_; have BK148 := n2_; have HB := n3_; clear n0_ n1_ n2_ n3_; (try clear hb); (try clear hb2); (try clear hk); (try clear hi)))
        go_ret2
        exact ⟨by first | rfl | (simp [errW_none, errW_some] <;> rfl) | (simp [*, errW_none, errW_some] <;> rfl), by repeat (first | (with_reducible first | exact HB.out | apply below_alloc | apply pw_below_drewN | apply below_drew1 | refine below_set ?_ GE138.out | refine below_set ?_ GE144.out | refine below_set ?_ GE148.out) | exact HB.out)⟩

/-! ### ratio_Scale: function 8 -/
def ratio_Scale.f (k : Nat) (a0 : Int) (a1 : Int) (a2 : Int) : Option (Int × Bool) := if a2 = 0 then (some (0, false)) else ((ratio_mul.f a0 a1).bind fun bt155 => ((ratio_magnitude.f a2).bind fun t159 => ((ratio_half.f k (bt155.1 != (decide (a2 < 0))) bt155.2.1 bt155.2.2 t159).bind fun bt160 => (if bt160.2 = true then (some (bt160.1, true)) else (some (0, false))))))
theorem ratio_Scale.mono : ∀ a0 a1 a2 k, LeO (ratio_Scale.f k a0 a1 a2) (ratio_Scale.f (k + 1) a0 a1 a2) := by
  intro a0 a1 a2 k
  unfold ratio_Scale.f
  repeat' first
      | (with_reducible exact ratio_half.mono _ _ _ _ _)
      | (with_reducible exact LeO.refl _)
      | (with_reducible exact LeO.none _)
      | (with_reducible refine LeO.ite ?_ ?_)
      | (with_reducible refine LeO.bind ?_ (fun _ => ?_))
      | exact ratio_half.mono _ _ _ _ _
      | exact LeO.none _
      | refine LeO.ite ?_ ?_
      | refine LeO.bind ?_ (fun _ => ?_)
def ratio_Scale.T5 : Bool × List (List Nat × List Nat) := (true, [([], []), ([], []), ([1], [1]), ([0, 2, 2], [0, 2]), ([3], [3]), ([4], [4]), ([4], [4]), ([5, 3, 0, 1, 2, 3, 4, 5], [5]), ([6, 7, 0, 1, 2, 3, 4, 5, 6, 7], [6])])
def ratio_Scale.B5 : List Nat := [0, 0, 2, 7, 15, 31, 31, 63, 255]
theorem ratio_Scale.tab5 : rtab .any (opsOf Try.f8 5) = ratio_Scale.T5 := by kernel_rfl
theorem ratio_Scale.bits5 : waitsOk ratio_Scale.T5.2 ratio_Scale.B5 = true := by kernel_rfl
set_option maxHeartbeats 8000000 in
set_option maxRecDepth 100000 in
theorem ratio_Scale.calls (k : Nat) (a0 : Int) (a1 : Int) (a2 : Int) (r1 : Int) (r2 : Bool) (w : World) (h : ratio_Scale.f k a0 a1 a2 = some (r1, r2)) :
    Calls Try.prog 8 #[.int .i64 a0, .int .i64 a1, .int .i64 a2] w fun e w' => e = .returned (.tuple #[.int .i64 r1, .bool r2]) ∧ Below w.heap.size w w' := by
  have hu36 := Try.underlying36
  have HB := Aside0.mk (Below.refl w.heap.size w)
  have H : (if a2 = 0 then (some (0, false)) else ((ratio_mul.f a0 a1).bind fun bt155 => ((ratio_magnitude.f a2).bind fun t159 => ((ratio_half.f k (bt155.1 != (decide (a2 < 0))) bt155.2.1 bt155.2.2 t159).bind fun bt160 => (if bt160.2 = true then (some (bt160.1, true)) else (some (0, false))))))) = some (r1, r2) := h
  clear h
  by_cases c4 : a2 = 0
  · rw [if_pos c4] at H
    have c4b0 : (a2 == 0) = true := beq_iff_eq.mpr c4
    have c4b1 : (a2 != 0) = false := bne_eq_false_iff_eq.mpr c4
    clear c4
    simp only [Option.some.injEq, Prod.mk.injEq] at H
    obtain ⟨rfl, rfl⟩ := H
    go_enter Try.func8, Try.ntmps8
    go_wp2
    go_ret2
    exact ⟨by first | rfl | (simp [errW_none, errW_some] <;> rfl) | (simp [*, errW_none, errW_some] <;> rfl), by repeat (first | (with_reducible first | exact HB.out | apply below_alloc | apply pw_below_drewN | apply below_drew1) | exact HB.out)⟩
  · rw [if_neg c4] at H
    have c4b0 : (a2 == 0) = false := beq_eq_false_iff_ne.mpr c4
    have c4b1 : (a2 != 0) = true := bne_iff_ne.mpr c4
    replace H := Option.bind_eq_some_iff.mp H
    obtain ⟨⟨t155, t156, t157⟩, A50, H⟩ := H
    replace H : ((ratio_magnitude.f a2).bind fun t159 => ((ratio_half.f k (t155 != (decide (a2 < 0))) t156 t157 t159).bind fun bt160 => (if bt160.2 = true then (some (bt160.1, true)) else (some (0, false))))) = some (r1, r2) := H
    have A5 := Aside0.mk A50
    clear A50
    replace H := Option.bind_eq_some_iff.mp H
    obtain ⟨t159, A60, H⟩ := H
    replace H : ((ratio_half.f k (t155 != (decide (a2 < 0))) t156 t157 t159).bind fun bt160 => (if bt160.2 = true then (some (bt160.1, true)) else (some (0, false)))) = some (r1, r2) := H
    have A6 := Aside0.mk A60
    clear A60
    replace H := Option.bind_eq_some_iff.mp H
    obtain ⟨⟨t160, t161⟩, A70, H⟩ := H
    replace H : (if t161 = true then (some (t160, true)) else (some (0, false))) = some (r1, r2) := H
    have A7 := Aside0.mk A70
    clear A70
    by_cases c8 : t161 = true
    · subst c8
      have H1 : (some (t160, true)) = some (r1, r2) := by rw [if_pos rfl] at H; exact H
      clear H
      have H := H1
      clear H1
      simp only [Option.some.injEq, Prod.mk.injEq] at H
      obtain ⟨rfl, rfl⟩ := H
      go_enter Try.func8, Try.ntmps8
      try go_wp2_with (first | ((with_reducible refine gate_callee (f := 10) rfl ?_); refine goesL_ (some 15) rfl rfl Try.func10 (by kernel_rfl) rfl #[.int .i64 a0, .int .i64 a1] rfl (by (try simp only [List.map_toArray, List.map_cons, List.map_nil]); first | done | rfl | (simp only [List.length_drop, List.length_take]; rfl)) ?_; (with_reducible refine (ratio_mul.calls a0 a1 t155 t156 t157 _ A5.out).mono ?_); rintro e w9 ⟨rfl, hb⟩; refine ⟨_, rfl, ?_⟩; have n0_ := Aside0.mk (below_step (by repeat (first | (with_reducible first | exact HB.out | apply below_alloc | apply pw_below_drewN | apply below_drew1) | exact HB.out)) hb); clear HB; have HB := n0_; clear n0_; (try clear hb); (try clear hb2); (try clear hk); (try clear hi)) | ((with_reducible refine gate_dst (N := 8) rfl ?_); refine box_event ?hg (N := 8) ?hd (cs := #[.bool false, .int .u64 0, .int .u64 0]) (t := 36) ?hr ?_; (case hd => rfl); (case hg => rfl); (case hr => first | (go_simp; done) | (go_simp; rfl)); intro gb158 hg w10 hbox hb; have n0_ := Aside0.mk (below_step (by repeat (first | (with_reducible first | exact HB.out | apply below_alloc | apply pw_below_drewN | apply below_drew1) | exact HB.out)) hb); have n1_ := Aside0.mk (hbox); have n2_ := Aside0.mk ((by rw [hg]; exact (below_size (by repeat (first | (with_reducible first | exact HB.out | apply below_alloc | apply pw_below_drewN | apply below_drew1) | exact HB.out))) : w.heap.size ≤ gb158)); have n3_ := Aside0.mk ((by rw [hg]; exact (below_size (by repeat (first | (with_reducible first | exact HB.out | apply below_alloc | apply pw_below_drewN | apply below_drew1) | exact HB.out))) : w.heap.size ≤ gb158)); clear HB; have HB := n0_; have BK158 := n1_; have GW158 := n2_; have GE158 := n3_; clear n0_ n1_ n2_ n3_; clear hb hbox hg; have hcz11_0 : w10.cell? ⟨gb158, 0, none⟩ = some (.bool false) := (blk_cell BK158.out 0).trans rfl; have hcz11_1 : w10.cell? ⟨gb158, 1, none⟩ = some (.int .u64 0) := (blk_cell BK158.out 1).trans rfl; have hcz11_2 : w10.cell? ⟨gb158, 2, none⟩ = some (.int .u64 0) := (blk_cell BK158.out 2).trans rfl; have hfz11_0 := blk_frozen BK158.out 0; have hfz11_1 := blk_frozen BK158.out 1; have hfz11_2 := blk_frozen BK158.out 2))
      have n0_ : Aside0 (((((w10.setCell ⟨gb158, 0, none⟩ (.bool t155)).setCell ⟨gb158, 1, none⟩ (.int .u64 t156)).setCell ⟨gb158, 2, none⟩ (.int .u64 t157)).setCell ⟨gb158, 0, none⟩ (.bool (t155 != (decide (a2 < 0))))).heap[gb158]? = some (.cells #[.bool (t155 != (decide (a2 < 0))), .int .u64 t156, .int .u64 t157] 36 (0, 0))) := ⟨by (with_reducible repeat (first | refine blk_drewN ?_ _ | refine blk_drew ?_ | refine blk_alloc ?_ _)); refine blk_put (cs := #[.bool t155, .int .u64 t156, .int .u64 t157]) ?_ 0 _ rfl; (with_reducible repeat (first | refine blk_drewN ?_ _ | refine blk_drew ?_ | refine blk_alloc ?_ _)); refine blk_put (cs := #[.bool t155, .int .u64 t156, .int .u64 0]) ?_ 2 _ rfl; (with_reducible repeat (first | refine blk_drewN ?_ _ | refine blk_drew ?_ | refine blk_alloc ?_ _)); refine blk_put (cs := #[.bool t155, .int .u64 0, .int .u64 0]) ?_ 1 _ rfl; (with_reducible repeat (first | refine blk_drewN ?_ _ | refine blk_drew ?_ | refine blk_alloc ?_ _)); refine blk_put (cs := #[.bool false, .int .u64 0, .int .u64 0]) ?_ 0 _ rfl; (with_reducible repeat (first | refine blk_drewN ?_ _ | refine blk_drew ?_ | refine blk_alloc ?_ _)); exact BK158.out⟩
      have n1_ : Aside0 (Below w.heap.size w ((((w10.setCell ⟨gb158, 0, none⟩ (.bool t155)).setCell ⟨gb158, 1, none⟩ (.int .u64 t156)).setCell ⟨gb158, 2, none⟩ (.int .u64 t157)).setCell ⟨gb158, 0, none⟩ (.bool (t155 != (decide (a2 < 0)))))) := ⟨by repeat (first | (with_reducible first | exact HB.out | apply below_alloc | apply pw_below_drewN | apply below_drew1 | refine below_set ?_ GE158.out) | exact HB.out)⟩
      (try clear BK158)
      (try clear HB)
      generalize ((((w10.setCell ⟨gb158, 0, none⟩ (.bool t155)).setCell ⟨gb158, 1, none⟩ (.int .u64 t156)).setCell ⟨gb158, 2, none⟩ (.int .u64 t157)).setCell ⟨gb158, 0, none⟩ (.bool (t155 != (decide (a2 < 0))))) = w12 at n0_ n1_ ⊢
      have BK158 := n0_
      have HB := n1_
      clear n0_ n1_
      have n0_ := Aside0.mk (blk_drew BK158.out)
      have n1_ := Aside0.mk (below_drew1 HB.out)
      clear BK158
      clear HB
      have BK158 := n0_
      have HB := n1_
      clear n0_ n1_
      refine start_ (n := 9) (S := fun w' => w'.cell? ⟨gb158, 0, none⟩ = some (.bool (t155 != (decide (a2 < 0)))) ∧ w'.cell? ⟨gb158, 1, none⟩ = some (.int .u64 t156) ∧ w'.cell? ⟨gb158, 2, none⟩ = some (.int .u64 t157)) (ds := []) #[false, false, false, false, false, false, false, false, false] (by kernel_rfl) rfl rfl ⟨(blk_cell BK158.out 0).trans rfl, (blk_cell BK158.out 1).trans rfl, (blk_cell BK158.out 2).trans rfl⟩ (fun hHeld => ?_); refine with_tabW ratio_Scale.tab5 ratio_Scale.bits5 (fun HT_ HW_ => ?_)
      generalize w12.drew = w13 at BK158 HB hHeld ⊢
      refine pure_ (i := 1) (N := some 24) (v := ?_) (a' := ?_) #[false, true, false, false, false, false, false, false, false] rfl rfl (any_of HT_.out (by kernel_rfl)) (fun _ _ _ h => h) (Or.inl ⟨by rfl, ?_⟩) ?_ ?_
      rotate_left
      · intro w'
        go_simp
        with_reducible rfl
      rotate_left
      · simp only [Act.put, List.setIfInBounds_toArray, List.set_cons_zero, List.set_cons_succ, i64_w, i32_w]
        rfl
      refine take_ (i := 0) (N := some 23) (v := ?_) (a' := ?_) #[true, true, false, false, false, false, false, false, false] rfl rfl (take_ofW HT_.out HW_.out (by kernel_rfl)) (fun _ _ _ h => h) (Or.inl ⟨by rfl, ?_⟩) hHeld ?_ ?_
      rotate_left
      · rintro w' ⟨s0, s1, s2⟩
        go_simp
        with_reducible rfl
      rotate_left
      · simp only [Act.put, List.setIfInBounds_toArray, List.set_cons_zero, List.set_cons_succ, i64_w, i32_w]
        rfl
      refine one_ (i := 2) (N := some 25) #[true, true, true, false, false, false, false, false, false] rfl rfl (one_of HT_.out (by kernel_rfl)) (by decide) (fun K hK => ?_)
      refine goes_ Try.func12 (by kernel_rfl) rfl #[.int .i64 a2] (by rfl) rfl rfl (by (try simp only [List.map_toArray, List.map_cons, List.map_nil]); first | done | rfl | (simp only [List.length_drop, List.length_take]; rfl)) ?_
      with_reducible refine (ratio_magnitude.calls a2 t159 _ A6.out).mono ?_
      rintro e w' ⟨rfl, ⟨nd, rfl⟩⟩
      refine ⟨_, rfl, ?_⟩
      refine hK.out _ _ ⟨(blk_cell BK158.out 0).trans rfl, (blk_cell BK158.out 1).trans rfl, (blk_cell BK158.out 2).trans rfl⟩ (fun hHeld => ?_)
      clear hK K
      refine norm_ (a' := ?_) ?_ ?_
      rotate_left
      · show Act.put _ (some 25) _ = _
        simp only [Act.put, List.setIfInBounds_toArray, List.set_cons_zero, List.set_cons_succ, i64_w, i32_w]
        rfl
      refine one_ (i := 3) (N := some 26) #[true, true, true, true, false, false, false, false, false] rfl rfl (one_of HT_.out (by kernel_rfl)) (by decide) (fun K hK => ?_)
      refine goes_ Try.func11 (by kernel_rfl) rfl #[.agg #[.bool (t155 != (decide (a2 < 0))), .int .u64 t156, .int .u64 t157], .int .u64 t159] (by rfl) rfl rfl (by (try simp only [List.map_toArray, List.map_cons, List.map_nil]); first | done | rfl | (simp only [List.length_drop, List.length_take]; rfl)) ?_
      with_reducible refine (ratio_half.calls k (t155 != (decide (a2 < 0))) t156 t157 t159 t160 true _ A7.out).mono ?_
      rintro e w14 ⟨rfl, hb⟩
      refine ⟨_, rfl, ?_⟩
      have n0_ := Aside0.mk (blk_below (g := gb158) (o := .cells #[.bool (t155 != (decide (a2 < 0))), .int .u64 t156, .int .u64 t157] 36 (0, 0)) (by (with_reducible repeat (first | refine blk_drewN ?_ _ | refine blk_drew ?_ | refine blk_alloc ?_ _)); exact BK158.out) hb)
      have n1_ := Aside0.mk (below_step (by repeat (first | (with_reducible first | exact HB.out | apply below_alloc | apply pw_below_drewN | apply below_drew1 | refine below_set ?_ GE158.out) | exact HB.out)) hb)
      clear BK158
      clear HB
      have BK158 := n0_
      have HB := n1_
      clear n0_ n1_
      (try clear hb)
      (try clear hb2)
      (try clear hk)
      (try clear hi)
      refine hK.out _ _ ⟨(blk_cell BK158.out 0).trans rfl, (blk_cell BK158.out 1).trans rfl, (blk_cell BK158.out 2).trans rfl⟩ (fun hHeld => ?_)
      clear hK K
      refine norm_ (a' := ?_) ?_ ?_
      rotate_left
      · show Act.put _ (some 26) _ = _
        simp only [Act.put, List.setIfInBounds_toArray, List.set_cons_zero, List.set_cons_succ, i64_w, i32_w]
        rfl
      refine pure_ (i := 4) (N := some 22) (v := ?_) (a' := ?_) #[true, true, true, true, true, false, false, false, false] rfl rfl (any_of HT_.out (by kernel_rfl)) (fun _ _ _ h => h) (Or.inl ⟨by rfl, ?_⟩) ?_ ?_
      rotate_left
      · intro w'
        go_simp
        with_reducible rfl
      rotate_left
      · simp only [Act.put, List.setIfInBounds_toArray, List.set_cons_zero, List.set_cons_succ, i64_w, i32_w]
        rfl
      refine pure_ (i := 5) (N := some 27) (v := ?_) (a' := ?_) #[true, true, true, true, true, true, false, false, false] rfl rfl (any_of HT_.out (by kernel_rfl)) (fun _ _ _ h => h) (Or.inl ⟨by rfl, ?_⟩) ?_ ?_
      rotate_left
      · intro w'
        go_simp
        with_reducible rfl
      rotate_left
      · simp only [Act.put, List.setIfInBounds_toArray, List.set_cons_zero, List.set_cons_succ, i64_w, i32_w]
        rfl
      refine pure_ (i := 6) (N := some 28) (v := ?_) (a' := ?_) #[true, true, true, true, true, true, true, false, false] rfl rfl (any_of HT_.out (by kernel_rfl)) (fun _ _ _ h => h) (Or.inl ⟨by rfl, ?_⟩) ?_ ?_
      rotate_left
      · intro w'
        go_simp
        with_reducible rfl
      rotate_left
      · simp only [Act.put, List.setIfInBounds_toArray, List.set_cons_zero, List.set_cons_succ, i64_w, i32_w]
        rfl
      refine pure_ (i := 7) (N := some 9) (v := ?_) (a' := ?_) #[true, true, true, true, true, true, true, true, false] rfl rfl (any_of HT_.out (by kernel_rfl)) (fun _ _ _ h => h) (Or.inl ⟨by rfl, ?_⟩) ?_ ?_
      rotate_left
      · intro w'
        go_simp
        with_reducible rfl
      rotate_left
      · simp only [Act.put, List.setIfInBounds_toArray, List.set_cons_zero, List.set_cons_succ, i64_w, i32_w]
        rfl
      refine pure_ (i := 8) (N := some 10) (v := ?_) (a' := ?_) #[true, true, true, true, true, true, true, true, true] rfl rfl (any_of HT_.out (by kernel_rfl)) (fun _ _ _ h => h) (Or.inl ⟨by rfl, ?_⟩) ?_ ?_
      rotate_left
      · intro w'
        go_simp
        with_reducible rfl
      rotate_left
      · simp only [Act.put, List.setIfInBounds_toArray, List.set_cons_zero, List.set_cons_succ, i64_w, i32_w]
        rfl
      refine done_ (done_of HT_.out (by kernel_rfl)) ?_
      try go_wp2
      go_ret2
      exact ⟨by first | rfl | (simp [errW_none, errW_some] <;> rfl) | (simp [*, errW_none, errW_some] <;> rfl), by repeat (first | (with_reducible first | exact HB.out | apply below_alloc | apply pw_below_drewN | apply below_drew1 | refine below_set ?_ GE158.out) | exact HB.out)⟩
    · replace c8 := Bool.eq_false_iff.mpr c8
      subst c8
      have H1 : (some (0, false)) = some (r1, r2) := by rw [if_neg (show ¬ (false = true) by decide)] at H; exact H
      clear H
      have H := H1
      clear H1
      simp only [Option.some.injEq, Prod.mk.injEq] at H
      obtain ⟨rfl, rfl⟩ := H
      go_enter Try.func8, Try.ntmps8
      try go_wp2_with (first | ((with_reducible refine gate_callee (f := 10) rfl ?_); refine goesL_ (some 15) rfl rfl Try.func10 (by kernel_rfl) rfl #[.int .i64 a0, .int .i64 a1] rfl (by (try simp only [List.map_toArray, List.map_cons, List.map_nil]); first | done | rfl | (simp only [List.length_drop, List.length_take]; rfl)) ?_; (with_reducible refine (ratio_mul.calls a0 a1 t155 t156 t157 _ A5.out).mono ?_); rintro e w15 ⟨rfl, hb⟩; refine ⟨_, rfl, ?_⟩; have n0_ := Aside0.mk (below_step (by repeat (first | (with_reducible first | exact HB.out | apply below_alloc | apply pw_below_drewN | apply below_drew1) | exact HB.out)) hb); clear HB; have HB := n0_; clear n0_; (try clear hb); (try clear hb2); (try clear hk); (try clear hi)) | ((with_reducible refine gate_dst (N := 8) rfl ?_); refine box_event ?hg (N := 8) ?hd (cs := #[.bool false, .int .u64 0, .int .u64 0]) (t := 36) ?hr ?_; (case hd => rfl); (case hg => rfl); (case hr => first | (go_simp; done) | (go_simp; rfl)); intro gb158 hg w16 hbox hb; have n0_ := Aside0.mk (below_step (by repeat (first | (with_reducible first | exact HB.out | apply below_alloc | apply pw_below_drewN | apply below_drew1) | exact HB.out)) hb); have n1_ := Aside0.mk (hbox); have n2_ := Aside0.mk ((by rw [hg]; exact (below_size (by repeat (first | (with_reducible first | exact HB.out | apply below_alloc | apply pw_below_drewN | apply below_drew1) | exact HB.out))) : w.heap.size ≤ gb158)); have n3_ := Aside0.mk ((by rw [hg]; exact (below_size (by repeat (first | (with_reducible first | exact HB.out | apply below_alloc | apply pw_below_drewN | apply below_drew1) | exact HB.out))) : w.heap.size ≤ gb158)); clear HB; have HB := n0_; have BK158 := n1_; have GW158 := n2_; have GE158 := n3_; clear n0_ n1_ n2_ n3_; clear hb hbox hg; have hcz17_0 : w16.cell? ⟨gb158, 0, none⟩ = some (.bool false) := (blk_cell BK158.out 0).trans rfl; have hcz17_1 : w16.cell? ⟨gb158, 1, none⟩ = some (.int .u64 0) := (blk_cell BK158.out 1).trans rfl; have hcz17_2 : w16.cell? ⟨gb158, 2, none⟩ = some (.int .u64 0) := (blk_cell BK158.out 2).trans rfl; have hfz17_0 := blk_frozen BK158.out 0; have hfz17_1 := blk_frozen BK158.out 1; have hfz17_2 := blk_frozen BK158.out 2))
      have n0_ : Aside0 (((((w16.setCell ⟨gb158, 0, none⟩ (.bool t155)).setCell ⟨gb158, 1, none⟩ (.int .u64 t156)).setCell ⟨gb158, 2, none⟩ (.int .u64 t157)).setCell ⟨gb158, 0, none⟩ (.bool (t155 != (decide (a2 < 0))))).heap[gb158]? = some (.cells #[.bool (t155 != (decide (a2 < 0))), .int .u64 t156, .int .u64 t157] 36 (0, 0))) := ⟨by (with_reducible repeat (first | refine blk_drewN ?_ _ | refine blk_drew ?_ | refine blk_alloc ?_ _)); refine blk_put (cs := #[.bool t155, .int .u64 t156, .int .u64 t157]) ?_ 0 _ rfl; (with_reducible repeat (first | refine blk_drewN ?_ _ | refine blk_drew ?_ | refine blk_alloc ?_ _)); refine blk_put (cs := #[.bool t155, .int .u64 t156, .int .u64 0]) ?_ 2 _ rfl; (with_reducible repeat (first | refine blk_drewN ?_ _ | refine blk_drew ?_ | refine blk_alloc ?_ _)); refine blk_put (cs := #[.bool t155, .int .u64 0, .int .u64 0]) ?_ 1 _ rfl; (with_reducible repeat (first | refine blk_drewN ?_ _ | refine blk_drew ?_ | refine blk_alloc ?_ _)); refine blk_put (cs := #[.bool false, .int .u64 0, .int .u64 0]) ?_ 0 _ rfl; (with_reducible repeat (first | refine blk_drewN ?_ _ | refine blk_drew ?_ | refine blk_alloc ?_ _)); exact BK158.out⟩
      have n1_ : Aside0 (Below w.heap.size w ((((w16.setCell ⟨gb158, 0, none⟩ (.bool t155)).setCell ⟨gb158, 1, none⟩ (.int .u64 t156)).setCell ⟨gb158, 2, none⟩ (.int .u64 t157)).setCell ⟨gb158, 0, none⟩ (.bool (t155 != (decide (a2 < 0)))))) := ⟨by repeat (first | (with_reducible first | exact HB.out | apply below_alloc | apply pw_below_drewN | apply below_drew1 | refine below_set ?_ GE158.out) | exact HB.out)⟩
      (try clear BK158)
      (try clear HB)
      generalize ((((w16.setCell ⟨gb158, 0, none⟩ (.bool t155)).setCell ⟨gb158, 1, none⟩ (.int .u64 t156)).setCell ⟨gb158, 2, none⟩ (.int .u64 t157)).setCell ⟨gb158, 0, none⟩ (.bool (t155 != (decide (a2 < 0))))) = w18 at n0_ n1_ ⊢
      have BK158 := n0_
      have HB := n1_
      clear n0_ n1_
      have n0_ := Aside0.mk (blk_drew BK158.out)
      have n1_ := Aside0.mk (below_drew1 HB.out)
      clear BK158
      clear HB
      have BK158 := n0_
      have HB := n1_
      clear n0_ n1_
      refine start_ (n := 9) (S := fun w' => w'.cell? ⟨gb158, 0, none⟩ = some (.bool (t155 != (decide (a2 < 0)))) ∧ w'.cell? ⟨gb158, 1, none⟩ = some (.int .u64 t156) ∧ w'.cell? ⟨gb158, 2, none⟩ = some (.int .u64 t157)) (ds := []) #[false, false, false, false, false, false, false, false, false] (by kernel_rfl) rfl rfl ⟨(blk_cell BK158.out 0).trans rfl, (blk_cell BK158.out 1).trans rfl, (blk_cell BK158.out 2).trans rfl⟩ (fun hHeld => ?_); refine with_tabW ratio_Scale.tab5 ratio_Scale.bits5 (fun HT_ HW_ => ?_)
      generalize w18.drew = w19 at BK158 HB hHeld ⊢
      refine pure_ (i := 1) (N := some 24) (v := ?_) (a' := ?_) #[false, true, false, false, false, false, false, false, false] rfl rfl (any_of HT_.out (by kernel_rfl)) (fun _ _ _ h => h) (Or.inl ⟨by rfl, ?_⟩) ?_ ?_
      rotate_left
      · intro w'
        go_simp
        with_reducible rfl
      rotate_left
      · simp only [Act.put, List.setIfInBounds_toArray, List.set_cons_zero, List.set_cons_succ, i64_w, i32_w]
        rfl
      refine take_ (i := 0) (N := some 23) (v := ?_) (a' := ?_) #[true, true, false, false, false, false, false, false, false] rfl rfl (take_ofW HT_.out HW_.out (by kernel_rfl)) (fun _ _ _ h => h) (Or.inl ⟨by rfl, ?_⟩) hHeld ?_ ?_
      rotate_left
      · rintro w' ⟨s0, s1, s2⟩
        go_simp
        with_reducible rfl
      rotate_left
      · simp only [Act.put, List.setIfInBounds_toArray, List.set_cons_zero, List.set_cons_succ, i64_w, i32_w]
        rfl
      refine one_ (i := 2) (N := some 25) #[true, true, true, false, false, false, false, false, false] rfl rfl (one_of HT_.out (by kernel_rfl)) (by decide) (fun K hK => ?_)
      refine goes_ Try.func12 (by kernel_rfl) rfl #[.int .i64 a2] (by rfl) rfl rfl (by (try simp only [List.map_toArray, List.map_cons, List.map_nil]); first | done | rfl | (simp only [List.length_drop, List.length_take]; rfl)) ?_
      with_reducible refine (ratio_magnitude.calls a2 t159 _ A6.out).mono ?_
      rintro e w' ⟨rfl, ⟨nd, rfl⟩⟩
      refine ⟨_, rfl, ?_⟩
      refine hK.out _ _ ⟨(blk_cell BK158.out 0).trans rfl, (blk_cell BK158.out 1).trans rfl, (blk_cell BK158.out 2).trans rfl⟩ (fun hHeld => ?_)
      clear hK K
      refine norm_ (a' := ?_) ?_ ?_
      rotate_left
      · show Act.put _ (some 25) _ = _
        simp only [Act.put, List.setIfInBounds_toArray, List.set_cons_zero, List.set_cons_succ, i64_w, i32_w]
        rfl
      refine one_ (i := 3) (N := some 26) #[true, true, true, true, false, false, false, false, false] rfl rfl (one_of HT_.out (by kernel_rfl)) (by decide) (fun K hK => ?_)
      refine goes_ Try.func11 (by kernel_rfl) rfl #[.agg #[.bool (t155 != (decide (a2 < 0))), .int .u64 t156, .int .u64 t157], .int .u64 t159] (by rfl) rfl rfl (by (try simp only [List.map_toArray, List.map_cons, List.map_nil]); first | done | rfl | (simp only [List.length_drop, List.length_take]; rfl)) ?_
      with_reducible refine (ratio_half.calls k (t155 != (decide (a2 < 0))) t156 t157 t159 t160 false _ A7.out).mono ?_
      rintro e w20 ⟨rfl, hb⟩
      refine ⟨_, rfl, ?_⟩
      have n0_ := Aside0.mk (blk_below (g := gb158) (o := .cells #[.bool (t155 != (decide (a2 < 0))), .int .u64 t156, .int .u64 t157] 36 (0, 0)) (by (with_reducible repeat (first | refine blk_drewN ?_ _ | refine blk_drew ?_ | refine blk_alloc ?_ _)); exact BK158.out) hb)
      have n1_ := Aside0.mk (below_step (by repeat (first | (with_reducible first | exact HB.out | apply below_alloc | apply pw_below_drewN | apply below_drew1 | refine below_set ?_ GE158.out) | exact HB.out)) hb)
      clear BK158
      clear HB
      have BK158 := n0_
      have HB := n1_
      clear n0_ n1_
      (try clear hb)
      (try clear hb2)
      (try clear hk)
      (try clear hi)
      refine hK.out _ _ ⟨(blk_cell BK158.out 0).trans rfl, (blk_cell BK158.out 1).trans rfl, (blk_cell BK158.out 2).trans rfl⟩ (fun hHeld => ?_)
      clear hK K
      refine norm_ (a' := ?_) ?_ ?_
      rotate_left
      · show Act.put _ (some 26) _ = _
        simp only [Act.put, List.setIfInBounds_toArray, List.set_cons_zero, List.set_cons_succ, i64_w, i32_w]
        rfl
      refine pure_ (i := 4) (N := some 22) (v := ?_) (a' := ?_) #[true, true, true, true, true, false, false, false, false] rfl rfl (any_of HT_.out (by kernel_rfl)) (fun _ _ _ h => h) (Or.inl ⟨by rfl, ?_⟩) ?_ ?_
      rotate_left
      · intro w'
        go_simp
        with_reducible rfl
      rotate_left
      · simp only [Act.put, List.setIfInBounds_toArray, List.set_cons_zero, List.set_cons_succ, i64_w, i32_w]
        rfl
      refine pure_ (i := 5) (N := some 27) (v := ?_) (a' := ?_) #[true, true, true, true, true, true, false, false, false] rfl rfl (any_of HT_.out (by kernel_rfl)) (fun _ _ _ h => h) (Or.inl ⟨by rfl, ?_⟩) ?_ ?_
      rotate_left
      · intro w'
        go_simp
        with_reducible rfl
      rotate_left
      · simp only [Act.put, List.setIfInBounds_toArray, List.set_cons_zero, List.set_cons_succ, i64_w, i32_w]
        rfl
      refine pure_ (i := 6) (N := some 28) (v := ?_) (a' := ?_) #[true, true, true, true, true, true, true, false, false] rfl rfl (any_of HT_.out (by kernel_rfl)) (fun _ _ _ h => h) (Or.inl ⟨by rfl, ?_⟩) ?_ ?_
      rotate_left
      · intro w'
        go_simp
        with_reducible rfl
      rotate_left
      · simp only [Act.put, List.setIfInBounds_toArray, List.set_cons_zero, List.set_cons_succ, i64_w, i32_w]
        rfl
      refine pure_ (i := 7) (N := some 9) (v := ?_) (a' := ?_) #[true, true, true, true, true, true, true, true, false] rfl rfl (any_of HT_.out (by kernel_rfl)) (fun _ _ _ h => h) (Or.inl ⟨by rfl, ?_⟩) ?_ ?_
      rotate_left
      · intro w'
        go_simp
        with_reducible rfl
      rotate_left
      · simp only [Act.put, List.setIfInBounds_toArray, List.set_cons_zero, List.set_cons_succ, i64_w, i32_w]
        rfl
      refine pure_ (i := 8) (N := some 10) (v := ?_) (a' := ?_) #[true, true, true, true, true, true, true, true, true] rfl rfl (any_of HT_.out (by kernel_rfl)) (fun _ _ _ h => h) (Or.inl ⟨by rfl, ?_⟩) ?_ ?_
      rotate_left
      · intro w'
        go_simp
        with_reducible rfl
      rotate_left
      · simp only [Act.put, List.setIfInBounds_toArray, List.set_cons_zero, List.set_cons_succ, i64_w, i32_w]
        rfl
      refine done_ (done_of HT_.out (by kernel_rfl)) ?_
      try go_wp2
      go_ret2
      exact ⟨by first | rfl | (simp [errW_none, errW_some] <;> rfl) | (simp [*, errW_none, errW_some] <;> rfl), by repeat (first | (with_reducible first | exact HB.out | apply below_alloc | apply pw_below_drewN | apply below_drew1 | refine below_set ?_ GE158.out) | exact HB.out)⟩

end Go.Proofs.Yteibejkbfnnkhaa.H
