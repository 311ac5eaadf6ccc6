/- Texts of this session, one behind the other, for the statement OutlineBoxes: what its functions compute, plain facts, and (last) its row. No condition besides those stated. -/
import Derived.Test.YtbmklpcheopgoaaMBoxes1
import Derived.Shelf.RegionOpen
import Derived.Shelf.Abstract
import Derived.WalkKit
import Derived.OwnWalkIn
import Derived.TacticsInMore
import Derived.LoopNIn
import Derived.LoopIn
import Derived.Outline
import Derived.Lib.Hide
import Derived.Test.YtbmklpcheopgoaaWApart
import Derived.Maps.AppendAt
import Derived.OrdersIn
import Derived.Deep.Draws
import Derived.RangeFuncLeaves
import Derived.DefersIn
import Derived.BigRegionIn
import Derived.Stop.RegionWithIn
import Derived.WalkSpells
import Derived.Test.YtbmklpcheopgoaaWLast
set_option linter.unusedVariables false
set_option linter.unusedSimpArgs false
namespace Go.Proofs.Ytbmklpcheopgoaa.H
open Go.RowKit Go.Proofs.YtbmklpcheopgoaaW.PrintWords Go.Proofs.YtbmklpcheopgoaaW.PrintLast Go.Proofs.YtbmklpcheopgoaaW.PrintMore
attribute [local go_sem] max2_int min2_int max_two min_two max_three min_three max_four min_four
set_option linter.unusedVariables false
set_option linter.unusedSimpArgs false
def outline_clone.f (l0_0 : List (S33)) (l0_1 : List Int) : Option ((List (S33)) × List Int) := if ([] : List (S33)).length + l0_0.length < 5864062014805 then (if ([] : List Int).length + l0_1.length < 17592186044416 then (some ((([] : List (S33)) ++ l0_0), (([] : List Int) ++ l0_1))) else (none)) else (none)
def outline_clone.T1 : Bool × List (List Nat × List Nat) := (true, [([], []), ([0], [0]), ([1], [1]), ([], []), ([3], [3]), ([4, 2], [4]), ([2, 5], [2, 5]), ([6, 5, 0, 1, 2, 3, 4, 5, 6], [6])])
def outline_clone.B1 : List Nat := [0, 1, 3, 0, 8, 31, 63, 127]
theorem outline_clone.tab1 : rtab .any (opsOf Try.f45 1) = outline_clone.T1 := by kernel_rfl
theorem outline_clone.bits1 : waitsOk outline_clone.T1.2 outline_clone.B1 = true := by kernel_rfl
set_option maxHeartbeats 8000000 in
set_option maxRecDepth 100000 in
theorem outline_clone.calls (A0_0 : Option Addr) (c0_0 : Nat) (l0_0 : List (S33)) (A0_1 : Option Addr) (c0_1 : Nat) (l0_1 : List Int) (r1 : List (S33)) (r2 : List Int) (w : World) (hr0_0 : Kd.C k33 w A0_0 l0_0.length l0_0) (hc0_0 : l0_0.length ≤ c0_0) (hr0_1 : Kd.C (Kd.int .i64) w A0_1 l0_1.length l0_1) (hc0_1 : l0_1.length ≤ c0_1) (h : outline_clone.f l0_0 l0_1 = some (r1, r2)) :
  Calls Try.prog 45 #[.agg #[.slice A0_0 l0_0.length c0_0, .slice A0_1 l0_1.length c0_1]] w fun e w' => ∃ v0_ v1_ : Value, e = .returned (.agg #[v0_, v1_]) ∧ Kd.R k33 33 w' w.heap.size (fun _ => True) v0_ r1 ∧ Kd.R (Kd.int .i64) 3 w' w.heap.size (fun _ => True) v1_ r2 ∧ Below w.heap.size w w' := by
 have hu25 := Try.underlying25
 have HR0_0 := aM hr0_0
 have HC0_0 := aM hc0_0
 clear hr0_0 hc0_0
 have HR0_1 := aM hr0_1
 have HC0_1 := aM hc0_1
 clear hr0_1 hc0_1
 have HB := aM (Below.refl w.heap.size w)
 have H : (if ([] : List (S33)).length + l0_0.length < 5864062014805 then (if ([] : List Int).length + l0_1.length < 17592186044416 then (some ((([] : List (S33)) ++ l0_0), (([] : List Int) ++ l0_1))) else (none)) else (none)) = some (r1, r2) := h
 clear h
 by_cases c2 : ([] : List (S33)).length + l0_0.length < 5864062014805
 ·
  rw [if_pos c2] at H
  have LMc2 := aM c2
  clear c2
  obtain ⟨y149, hy149⟩ : ∃ y_ : List (S33), y_ = (([] : List (S33)) ++ l0_0) := ⟨_, rfl⟩
  replace H : (if ([] : List Int).length + l0_1.length < 17592186044416 then (some (y149, (([] : List Int) ++ l0_1))) else (none)) = some (r1, r2) := by first | (rw [hy149]; with_reducible exact H) | (have H2_ := (Option.bind_some _ _).symm.trans H; rw [hy149]; with_reducible exact H2_) | (have H2_ := (Option.bind_some _ _).symm.trans H; with_reducible exact H2_) | with_reducible exact H | (rw [hy149]; exact H) | exact H
  have Ny149 := aM hy149
  clear hy149
  by_cases c3 : ([] : List Int).length + l0_1.length < 17592186044416
  ·
   rw [if_pos c3] at H
   have LMc3 := aM c3
   clear c3
   obtain ⟨y152, hy152⟩ : ∃ y_ : List Int, y_ = (([] : List Int) ++ l0_1) := ⟨_, rfl⟩
   replace H : (some (y149, y152)) = some (r1, r2) := by first | (rw [hy152]; with_reducible exact H) | (have H2_ := (Option.bind_some _ _).symm.trans H; rw [hy152]; with_reducible exact H2_) | (have H2_ := (Option.bind_some _ _).symm.trans H; with_reducible exact H2_) | with_reducible exact H | (rw [hy152]; exact H) | exact H
   have Ny152 := aM hy152
   clear hy152
   simp only [Option.some.injEq, Prod.mk.injEq] at H
   obtain ⟨rfl, rfl⟩ := H
   go_enter Try.func45, Try.ntmps45
   try go_wp2_with (first | ((with_reducible refine gate_dst (N := 1) rfl ?_); refine box_event ?hg (N := 1) ?hd (cs := #[.slice A0_0 l0_0.length c0_0, .slice A0_1 l0_1.length c0_1]) (t := 25) ?hr ?_; (case hd => rfl); (case hg => rfl); (case hr => first | (go_simp; done) | (go_simp; rfl)); intro gb147 hg w4 hbox hb; have n0_ := aM (below_step (by repeat (first | (with_reducible first | exact HB.out | apply bA | apply bN | apply bD) | exact HB.out)) hb); have n1_ := aM (hbox); have n2_ := aM ((by rw [hg]; exact (below_size (by repeat (first | (with_reducible first | exact HB.out | apply bA | apply bN | apply bD) | exact HB.out))) : w.heap.size ≤ gb147)); have n3_ := aM ((by rw [hg]; exact (below_size (by repeat (first | (with_reducible first | exact HB.out | apply bA | apply bN | apply bD) | exact HB.out))) : w.heap.size ≤ gb147)); clear HB; have HB := n0_; have BK147 := n1_; have GW147 := n2_; have GE147 := n3_; clear n0_ n1_ n2_ n3_; clear hb hbox hg) | ((with_reducible refine gate_dst (N := 2) rfl ?_); refine box_event ?hg (N := 2) ?hd (cs := #[.slice none 0 0, .slice none 0 0]) (t := 25) ?hr ?_; (case hd => rfl); (case hg => rfl); (case hr => first | (go_simp; done) | (go_simp; rfl)); intro gb148 hg w5 hbox hb; have n0_ := aM (blk_below (g := gb147) (o := .cells #[.slice A0_0 l0_0.length c0_0, .slice A0_1 l0_1.length c0_1] 25 (0, 0)) (by (with_reducible repeat (first | refine kN ?_ _ | refine kD ?_ | refine kA ?_ _)); exact BK147.out) hb); have n1_ := aM (below_step (by repeat (first | (with_reducible first | exact HB.out | apply bA | apply bN | apply bD | refine bS ?_ GE147.out) | exact HB.out)) hb); have n2_ := aM (hbox); have n3_ := aM ((by rw [hg]; exact (below_size (by repeat (first | (with_reducible first | exact HB.out | apply bA | apply bN | apply bD | refine bS ?_ GE147.out) | exact HB.out))) : w.heap.size ≤ gb148)); have n4_ := aM ((by rw [hg]; exact (below_size (by repeat (first | (with_reducible first | exact HB.out | apply bA | apply bN | apply bD | refine bS ?_ GE147.out) | exact HB.out))) : w.heap.size ≤ gb148)); have n5_ := aM ((by rw [hg]; exact Nat.ne_of_lt (blk_lt (g := gb147) (o := .cells #[.slice A0_0 l0_0.length c0_0, .slice A0_1 l0_1.length c0_1] 25 (0, 0)) (by (with_reducible repeat (first | refine kN ?_ _ | refine kD ?_ | refine kA ?_ _)); exact BK147.out)) : gb147 ≠ gb148)); have n6_ := aM ((by rw [hg]; exact Nat.ne_of_gt (blk_lt (g := gb147) (o := .cells #[.slice A0_0 l0_0.length c0_0, .slice A0_1 l0_1.length c0_1] 25 (0, 0)) (by (with_reducible repeat (first | refine kN ?_ _ | refine kD ?_ | refine kA ?_ _)); exact BK147.out)) : gb148 ≠ gb147)); clear BK147; clear HB; have BK147 := n0_; have HB := n1_; have BK148 := n2_; have GW148 := n3_; have GE148 := n4_; have NB147_148 := n5_; have NB148_147 := n6_; clear n0_ n1_ n2_ n3_ n4_ n5_ n6_; clear hb hbox hg))
   have n0_ := aM (kD BK147.out)
   have n1_ := aM (kD BK148.out)
   have n2_ := aM (bD HB.out)
   clear BK147
   clear BK148
   clear HB
   have BK147 := n0_
   have BK148 := n1_
   have HB := n2_
   clear n0_ n1_ n2_
   refine start_ (n := 8) (S := fun w' => w'.cell? ⟨gb147, 0, none⟩ = some (.slice A0_0 l0_0.length c0_0) ∧ w'.cell? ⟨gb147, 1, none⟩ = some (.slice A0_1 l0_1.length c0_1)) (ds := []) #[false, false, false, false, false, false, false, false] (by kernel_rfl) rfl rfl ⟨(blk_cell BK147.out 0).trans rfl, (blk_cell BK147.out 1).trans rfl⟩ (fun hHeld => ?_); refine with_tabW outline_clone.tab1 outline_clone.bits1 (fun HT_ HW_ => ?_)
   generalize w5.drew = w6 at BK147 BK148 HB hHeld ⊢
   refine pure_ (i := 0) (N := some 3) (v := ?_) (a' := ?_) #[true, false, false, false, false, false, false, false] rfl rfl (any_of HT_.out (by kernel_rfl)) (fun _ _ _ h => h) (Or.inl ⟨by rfl, ?_⟩) ?_ ?_
   rotate_left
   ·
    intro w'
    go_simp
    with_reducible rfl
   rotate_left
   ·
    simp only [Act.put, List.setIfInBounds_toArray, List.set_cons_zero, List.set_cons_succ, i64_w, i32_w]
    rfl
   refine pure_ (i := 3) (N := some 6) (v := ?_) (a' := ?_) #[true, false, false, true, false, false, false, false] rfl rfl (any_of HT_.out (by kernel_rfl)) (fun _ _ _ h => h) (Or.inl ⟨by rfl, ?_⟩) ?_ ?_
   rotate_left
   ·
    intro w'
    go_simp
    with_reducible rfl
   rotate_left
   ·
    simp only [Act.put, List.setIfInBounds_toArray, List.set_cons_zero, List.set_cons_succ, i64_w, i32_w]
    rfl
   refine take_ (i := 1) (N := some 4) (v := ?_) (a' := ?_) #[true, true, false, true, false, false, false, false] rfl rfl (take_ofW HT_.out HW_.out (by kernel_rfl)) (fun _ _ _ h => h) (Or.inl ⟨by rfl, ?_⟩) hHeld ?_ ?_
   rotate_left
   ·
    rintro w' ⟨s0, s1⟩
    go_simp
    with_reducible rfl
   rotate_left
   ·
    simp only [Act.put, List.setIfInBounds_toArray, List.set_cons_zero, List.set_cons_succ, i64_w, i32_w]
    rfl
   refine take_ (i := 4) (N := some 7) (v := ?_) (a' := ?_) #[true, true, false, true, true, false, false, false] rfl rfl (take_ofW HT_.out HW_.out (by kernel_rfl)) (fun _ _ _ h => h) (Or.inl ⟨by rfl, ?_⟩) hHeld ?_ ?_
   rotate_left
   ·
    rintro w' ⟨s0, s1⟩
    go_simp
    with_reducible rfl
   rotate_left
   ·
    simp only [Act.put, List.setIfInBounds_toArray, List.set_cons_zero, List.set_cons_succ, i64_w, i32_w]
    rfl
   refine one_ (i := 2) (N := some 5) #[true, true, true, true, true, false, false, false] rfl rfl (one_of HT_.out (by kernel_rfl)) (by decide) (fun K hK => ?_)
   refine Kd.R_append_rows_step k33 (w0 := w) w.heap.size (by rfl) (.const (.slice none 0 0)) (.tmp 4) 22 33 (.agg #[(.int .i64 0), (.int .i64 0), (.bool false)]) 24 rfl Try.underlying22 info33 rfl (by decide) (by omega) (.slice none 0 0) ([] : List (S33)) l0_0 _ _ _ (fun _ => True) (fun _ => False) rfl rfl ?aO ?aR (fun _ _ h => h) (fun _ h => h.elim) ?aF ?aB ?aS ?aL ?_
   (case aR => repeat (first | exact (Kd.C_below HR0_0.out HB.out) | (with_reducible refine Kd.C_alloc ?_ _) | (with_reducible refine Kd.C_drewN ?_ _) | (with_reducible refine Kd.C_drew ?_)))
   (case aB => exact (by repeat (first | (with_reducible first | exact HB.out | apply bA | apply bN | apply bD | refine bS ?_ GE147.out | refine bS ?_ GE148.out) | exact HB.out)))
   (case aF => exact (fun _ _ => trivial))
   (case aO => exact ((Kd.R_nil _ _ _ _ (fun _ => True))))
   (case aS => exact (below_size (by repeat (first | (with_reducible first | exact HB.out | apply bA | apply bN | apply bD | refine bS ?_ GE147.out | refine bS ?_ GE148.out) | exact HB.out))))
   (case aL => have := LMc2.out; omega)
   intro v150 w7 ho hb hg hat
   rw [← Ny149.out] at ho
   have n0_ := aM (blk_grown (g := gb147) (o := .cells #[.slice A0_0 l0_0.length c0_0, .slice A0_1 l0_1.length c0_1] 25 (0, 0)) (by (with_reducible repeat (first | refine kN ?_ _ | refine kD ?_ | refine kA ?_ _)); exact BK147.out) hg (by simp [Value.ownBlock]))
   have n1_ := aM (blk_grown (g := gb148) (o := .cells #[.slice none 0 0, .slice none 0 0] 25 (0, 0)) (by (with_reducible repeat (first | refine kN ?_ _ | refine kD ?_ | refine kA ?_ _)); exact BK148.out) hg (by simp [Value.ownBlock]))
   have n2_ := aM (hb)
   have n3_ := aM (ho)
   clear BK147
   clear BK148
   clear HB
   have BK147 := n0_
   have BK148 := n1_
   have HB := n2_
   have HO151 := n3_
   clear n0_ n1_ n2_ n3_
   clear ho hb hg hat
   refine hK.out _ _ ⟨(blk_cell BK147.out 0).trans rfl, (blk_cell BK147.out 1).trans rfl⟩ (fun hHeld => ?_)
   clear hK K
   refine norm_ (a' := ?_) ?_ ?_
   rotate_left
   ·
    show Act.put _ (some 5) _ = _
    simp only [Act.put, List.setIfInBounds_toArray, List.set_cons_zero, List.set_cons_succ, i64_w, i32_w]
    rfl
   refine one_ (i := 5) (N := some 8) #[true, true, true, true, true, true, false, false] rfl rfl (one_of HT_.out (by kernel_rfl)) (by decide) (fun K hK => ?_)
   refine Kd.R_append_rows_step (Kd.int .i64) (w0 := w) w.heap.size (by rfl) (.const (.slice none 0 0)) (.tmp 7) 23 3 (.int .i64 0) 8 rfl Try.underlying23 info3 rfl (by decide) (by omega) (.slice none 0 0) ([] : List Int) l0_1 _ _ _ (fun _ => True) (fun _ => False) rfl rfl ?aO ?aR (fun _ _ h => h) (fun _ h => h.elim) ?aF ?aB ?aS ?aL ?_
   (case aR => repeat (first | exact (Kd.C_below HR0_1.out HB.out) | (with_reducible refine Kd.C_alloc ?_ _) | (with_reducible refine Kd.C_drewN ?_ _) | (with_reducible refine Kd.C_drew ?_)))
   (case aB => exact (by repeat (first | (with_reducible first | exact HB.out | apply bA | apply bN | apply bD | refine bS ?_ GE147.out | refine bS ?_ GE148.out) | exact HB.out)))
   (case aF => exact (fun _ _ => trivial))
   (case aO => exact ((Kd.R_nil _ _ _ _ (fun _ => True))))
   (case aS => exact (below_size (by repeat (first | (with_reducible first | exact HB.out | apply bA | apply bN | apply bD | refine bS ?_ GE147.out | refine bS ?_ GE148.out) | exact HB.out))))
   (case aL => have := LMc3.out; omega)
   intro v153 w8 ho hb hg hat
   rw [← Ny152.out] at ho
   have n0_ := aM (blk_grown (g := gb147) (o := .cells #[.slice A0_0 l0_0.length c0_0, .slice A0_1 l0_1.length c0_1] 25 (0, 0)) (by (with_reducible repeat (first | refine kN ?_ _ | refine kD ?_ | refine kA ?_ _)); exact BK147.out) hg (by simp [Value.ownBlock]))
   have n1_ := aM (blk_grown (g := gb148) (o := .cells #[.slice none 0 0, .slice none 0 0] 25 (0, 0)) (by (with_reducible repeat (first | refine kN ?_ _ | refine kD ?_ | refine kA ?_ _)); exact BK148.out) hg (by simp [Value.ownBlock]))
   have n2_ := aM (Kd.R_grown (by (with_reducible repeat (first | apply Kd.R_alloc | apply Kd.R_drewN | apply Kd.R_drew)); exact HO151.out) hg (fun _ _ => by simp [Value.ownBlock]))
   have n3_ := aM (hb)
   have n4_ := aM (ho)
   clear BK147
   clear BK148
   clear HO151
   clear HB
   have BK147 := n0_
   have BK148 := n1_
   have HO151 := n2_
   have HB := n3_
   have HO154 := n4_
   clear n0_ n1_ n2_ n3_ n4_
   clear ho hb hg hat
   obtain ⟨Ao9, co9, eo9⟩ := Kd.R_slice HO154.out
   (first | subst eo9 | (injection eo9 with f1_ f2_ f3_; have f4_ := f1_.symm; have f5_ := f3_.symm; clear f1_ f2_ f3_; subst f4_; subst f5_))
   obtain ⟨Ao10, co10, eo10⟩ := Kd.R_slice HO151.out
   (first | subst eo10 | (injection eo10 with f1_ f2_ f3_; have f4_ := f1_.symm; have f5_ := f3_.symm; clear f1_ f2_ f3_; subst f4_; subst f5_))
   refine hK.out _ _ ⟨(blk_cell BK147.out 0).trans rfl, (blk_cell BK147.out 1).trans rfl⟩ (fun hHeld => ?_)
   clear hK K
   refine norm_ (a' := ?_) ?_ ?_
   rotate_left
   ·
    show Act.put _ (some 8) _ = _
    simp only [Act.put, List.setIfInBounds_toArray, List.set_cons_zero, List.set_cons_succ, i64_w, i32_w]
    rfl
   refine pure_ (i := 6) (N := some 9) (v := ?_) (a' := ?_) #[true, true, true, true, true, true, true, false] rfl rfl (any_of HT_.out (by kernel_rfl)) (fun _ _ _ h => h) (Or.inl ⟨by rfl, ?_⟩) ?_ ?_
   rotate_left
   ·
    intro w'
    go_simp
    with_reducible rfl
   rotate_left
   ·
    simp only [Act.put, List.setIfInBounds_toArray, List.set_cons_zero, List.set_cons_succ, i64_w, i32_w]
    rfl
   refine one_ (i := 7) (N := none) #[true, true, true, true, true, true, true, true] rfl rfl (one_of HT_.out (by kernel_rfl)) (by decide) (fun K hK => ?_)
   have hs11 : w8.cell? ⟨gb148, 0, none⟩ = some (.slice none 0 0) := (blk_cell BK148.out 0).trans rfl
   have hfs11 := blk_frozen BK148.out 0
   have hns11_0 := NB147_148.out
   have hms11_0 := NB148_147.out
   have hs12 : w8.cell? ⟨gb148, 1, none⟩ = some (.slice none 0 0) := (blk_cell BK148.out 1).trans rfl
   have hfs12 := blk_frozen BK148.out 1
   have hns12_0 := NB147_148.out
   have hms12_0 := NB148_147.out
   refine skip_ (w1 := ?_) (by rfl) rfl ?_ ?_
   rotate_left
   ·
    go_simp
    rfl
   refine hK.out _ _ ⟨((cell_far (p := ⟨gb148, _, none⟩) NB147_148.out _).trans (((cell_far (p := ⟨gb148, _, none⟩) NB147_148.out _).trans (hHeld.1)))), ((cell_far (p := ⟨gb148, _, none⟩) NB147_148.out _).trans (((cell_far (p := ⟨gb148, _, none⟩) NB147_148.out _).trans (hHeld.2))))⟩ (fun hHeld => ?_)
   clear hK K
   refine done_ (done_of HT_.out (by kernel_rfl)) ?_
   try go_wp2
   refine bodyPost_ret (results_cell_row rfl _ _ gb148 25 #[.slice Ao10 y149.length co10, .slice Ao9 y152.length co9] (0, 0) _ rfl (by (with_reducible repeat (first | refine kN ?_ _ | refine kD ?_ | refine kA ?_ _)); refine blk_put (cs := #[.slice Ao10 y149.length co10, .slice none 0 0]) ?_ 1 _ rfl; (with_reducible repeat (first | refine kN ?_ _ | refine kD ?_ | refine kA ?_ _)); refine blk_put (cs := #[.slice none 0 0, .slice none 0 0]) ?_ 0 _ rfl; (with_reducible repeat (first | refine kN ?_ _ | refine kD ?_ | refine kA ?_ _)); exact BK148.out) Try.underlying25 rfl (by kernel_rfl)) rfl ?_
   exact ⟨_, _, by first | rfl | (simp [errW_none, errW_some] <;> rfl) | (simp [*, errW_none, errW_some] <;> rfl), by (with_reducible repeat (first | apply Kd.R_alloc | apply Kd.R_drewN | apply Kd.R_drew)); exact Kd.R_mono (Kd.R_far (p := ⟨gb148, 1, none⟩) (Kd.R_far (p := ⟨gb148, 0, none⟩) (Kd.R_types HO151.out BK148.out (by decide)) (fun _ hk => hk.2) (.slice Ao10 y149.length co10)) (fun _ hk => hk.2) (.slice Ao9 y152.length co9)) (fun _ hk => trivial), by (with_reducible repeat (first | apply Kd.R_alloc | apply Kd.R_drewN | apply Kd.R_drew)); exact Kd.R_mono (Kd.R_far (p := ⟨gb148, 1, none⟩) (Kd.R_far (p := ⟨gb148, 0, none⟩) (Kd.R_types HO154.out BK148.out (by decide)) (fun _ hk => hk.2) (.slice Ao10 y149.length co10)) (fun _ hk => hk.2) (.slice Ao9 y152.length co9)) (fun _ hk => trivial), by repeat (first | (with_reducible first | exact HB.out | apply bA | apply bN | apply bD | refine bS ?_ GE147.out | refine bS ?_ GE148.out) | exact HB.out)⟩
  ·
   rw [if_neg c3] at H
   exact absurd H (by simp)
 ·
  rw [if_neg c2] at H
  exact absurd H (by simp)
def outline_Moved.l0 : Nat → Int → Int → Int → Int → List (S33) → List Int → Option ((List (S33)) × List Int)
 | 0, _, _, _, _, _, _ => none
 | k + 1, x1, x2, x13, x14, x164000, x164001 => if x14 < x13 then (if 0 ≤ x14 then (if x14 < (x164000.length : Int) then ((some (x164000.set (x14 : Int).toNat (⟨wrap64 (((rd_T33 x164000 x14).f0) + x1), (rd_T33 x164000 x14).f1, (rd_T33 x164000 x14).f2⟩ : S33) : List (S33))).bind fun y165 => (outline_Moved.l0 k x1 x2 x13 (wrap64 (x14 + 1)) (y165.set (x14 : Int).toNat (⟨(rd_T33 y165 x14).f0, wrap64 (((rd_T33 y165 x14).f1) + x2), (rd_T33 y165 x14).f2⟩ : S33)) x164001)) else (none)) else (none)) else (some (x164000, x164001))
def outline_Moved.f (k : Nat) (l0_0 : List (S33)) (l0_1 : List Int) (a1 : Int) (a2 : Int) : Option ((List (S33)) × List Int) := (outline_clone.f l0_0 l0_1).bind fun bt157 => (outline_Moved.l0 k a1 a2 (bt157.1.length : Int) 0 bt157.1 bt157.2)
theorem outline_Moved.mono_l : ∀ k, (∀ y0 y1 y2 y3 y4 y5, LeO (outline_Moved.l0 k y0 y1 y2 y3 y4 y5) (outline_Moved.l0 (k + 1) y0 y1 y2 y3 y4 y5))
 | 0 => fun _ _ _ _ _ _ r h => by simp [outline_Moved.l0] at h
 | k + 1 => by
  have ih0 := outline_Moved.mono_l k
  ·
   intro y0 y1 y2 y3 y4 y5
   unfold outline_Moved.l0
   repeat' first
   | (with_reducible exact ih0 _ _ _ _ _ _)
   | (with_reducible exact LeO.refl _)
   | (with_reducible exact LeO.none _)
   | (with_reducible refine LeO.ite ?_ ?_)
   | (with_reducible refine LeO.bind ?_ (fun _ => ?_))
   | exact ih0 _ _ _ _ _ _
   | exact LeO.none _
   | refine LeO.ite ?_ ?_
   | refine LeO.bind ?_ (fun _ => ?_)
theorem outline_Moved.mono : ∀ a0 a1 a2 a3 k, LeO (outline_Moved.f k a0 a1 a2 a3) (outline_Moved.f (k + 1) a0 a1 a2 a3) := by
 intro a0 a1 a2 a3 k
 have ih0 := outline_Moved.mono_l k
 unfold outline_Moved.f
 repeat' first
   | (with_reducible exact ih0 _ _ _ _ _ _)
   | (with_reducible exact LeO.refl _)
   | (with_reducible exact LeO.none _)
   | (with_reducible refine LeO.ite ?_ ?_)
   | (with_reducible refine LeO.bind ?_ (fun _ => ?_))
   | exact ih0 _ _ _ _ _ _
   | exact LeO.none _
   | refine LeO.ite ?_ ?_
   | refine LeO.bind ?_ (fun _ => ?_)
set_option maxHeartbeats 8000000 in
set_option maxRecDepth 100000 in
theorem outline_Moved.calls (k : Nat) (A0_0 : Option Addr) (c0_0 : Nat) (l0_0 : List (S33)) (A0_1 : Option Addr) (c0_1 : Nat) (l0_1 : List Int) (a1 : Int) (a2 : Int) (r1 : List (S33)) (r2 : List Int) (w : World) (hr0_0 : Kd.C k33 w A0_0 l0_0.length l0_0) (hc0_0 : l0_0.length ≤ c0_0) (hr0_1 : Kd.C (Kd.int .i64) w A0_1 l0_1.length l0_1) (hc0_1 : l0_1.length ≤ c0_1) (h : outline_Moved.f k l0_0 l0_1 a1 a2 = some (r1, r2)) :
  Calls Try.prog 27 #[.agg #[.slice A0_0 l0_0.length c0_0, .slice A0_1 l0_1.length c0_1], .int .i64 a1, .int .i64 a2] w fun e w' => ∃ v0_ v1_ : Value, e = .returned (.agg #[v0_, v1_]) ∧ Kd.R k33 33 w' w.heap.size (fun _ => True) v0_ r1 ∧ Kd.R (Kd.int .i64) 3 w' w.heap.size (fun _ => True) v1_ r2 ∧ Below w.heap.size w w' := by
 have hu25 := Try.underlying25
 have HR0_0 := aM hr0_0
 have HC0_0 := aM hc0_0
 clear hr0_0 hc0_0
 have HR0_1 := aM hr0_1
 have HC0_1 := aM hc0_1
 clear hr0_1 hc0_1
 have HB := aM (Below.refl w.heap.size w)
 have H : ((outline_clone.f l0_0 l0_1).bind fun bt157 => (outline_Moved.l0 k a1 a2 (bt157.1.length : Int) 0 bt157.1 bt157.2)) = some (r1, r2) := h
 clear h
 replace H := Option.bind_eq_some_iff.mp H
 obtain ⟨⟨t157, t160⟩, A40, H⟩ := H
 replace H : (outline_Moved.l0 k a1 a2 (t157.length : Int) 0 t157 t160) = some (r1, r2) := H
 have A4 := aM A40
 clear A40
 have H' := aM H
 clear H
 go_enter Try.func27, Try.ntmps27
 go_wp2_with (first | ((with_reducible refine gate_dst (N := 3) rfl ?_); refine box_event ?hg (N := 3) ?hd (cs := #[.slice A0_0 l0_0.length c0_0, .slice A0_1 l0_1.length c0_1]) (t := 25) ?hr ?_; (case hd => rfl); (case hg => rfl); (case hr => first | (go_simp; done) | (go_simp; rfl)); intro gb155 hg w5 hbox hb; have n0_ := aM (below_step (by repeat (first | (with_reducible first | exact HB.out | apply bA | apply bN | apply bD) | exact HB.out)) hb); have n1_ := aM (hbox); have n2_ := aM ((by rw [hg]; exact (below_size (by repeat (first | (with_reducible first | exact HB.out | apply bA | apply bN | apply bD) | exact HB.out))) : w.heap.size ≤ gb155)); have n3_ := aM ((by rw [hg]; exact (below_size (by repeat (first | (with_reducible first | exact HB.out | apply bA | apply bN | apply bD) | exact HB.out))) : w.heap.size ≤ gb155)); clear HB; have HB := n0_; have BK155 := n1_; have GW155 := n2_; have GE155 := n3_; clear n0_ n1_ n2_ n3_; clear hb hbox hg) | ((with_reducible refine gate_dst (N := 6) rfl ?_); refine box_event ?hg (N := 6) ?hd (cs := #[.slice none 0 0, .slice none 0 0]) (t := 25) ?hr ?_; (case hd => rfl); (case hg => rfl); (case hr => first | (go_simp; done) | (go_simp; rfl)); intro gb156 hg w6 hbox hb; have n0_ := aM (blk_below (g := gb155) (o := .cells #[.slice A0_0 l0_0.length c0_0, .slice A0_1 l0_1.length c0_1] 25 (0, 0)) (by (with_reducible repeat (first | refine kN ?_ _ | refine kD ?_ | refine kA ?_ _)); exact BK155.out) hb); have n1_ := aM (below_step (by repeat (first | (with_reducible first | exact HB.out | apply bA | apply bN | apply bD | refine bS ?_ GE155.out) | exact HB.out)) hb); have n2_ := aM (hbox); have n3_ := aM ((by rw [hg]; exact (below_size (by repeat (first | (with_reducible first | exact HB.out | apply bA | apply bN | apply bD | refine bS ?_ GE155.out) | exact HB.out))) : w.heap.size ≤ gb156)); have n4_ := aM ((by rw [hg]; exact (below_size (by repeat (first | (with_reducible first | exact HB.out | apply bA | apply bN | apply bD | refine bS ?_ GE155.out) | exact HB.out))) : w.heap.size ≤ gb156)); have n5_ := aM ((by rw [hg]; exact Nat.ne_of_lt (blk_lt (g := gb155) (o := .cells #[.slice A0_0 l0_0.length c0_0, .slice A0_1 l0_1.length c0_1] 25 (0, 0)) (by (with_reducible repeat (first | refine kN ?_ _ | refine kD ?_ | refine kA ?_ _)); exact BK155.out)) : gb155 ≠ gb156)); have n6_ := aM ((by rw [hg]; exact Nat.ne_of_gt (blk_lt (g := gb155) (o := .cells #[.slice A0_0 l0_0.length c0_0, .slice A0_1 l0_1.length c0_1] 25 (0, 0)) (by (with_reducible repeat (first | refine kN ?_ _ | refine kD ?_ | refine kA ?_ _)); exact BK155.out)) : gb156 ≠ gb155)); clear BK155; clear HB; have BK155 := n0_; have HB := n1_; have BK156 := n2_; have GW156 := n3_; have GE156 := n4_; have NB155_156 := n5_; have NB156_155 := n6_; clear n0_ n1_ n2_ n3_ n4_ n5_ n6_; clear hb hbox hg; have hnb7 := NB155_156.out; have hnc7 := NB156_155.out; have hcz8_0 : w6.cell? ⟨gb155, 0, none⟩ = some (.slice A0_0 l0_0.length c0_0) := (blk_cell BK155.out 0).trans rfl; have hcz8_1 : w6.cell? ⟨gb155, 1, none⟩ = some (.slice A0_1 l0_1.length c0_1) := (blk_cell BK155.out 1).trans rfl; have hfz8_0 := blk_frozen BK155.out 0; have hfz8_1 := blk_frozen BK155.out 1) | ((with_reducible refine gate_callee (f := 45) rfl ?_); refine goesL_ (some 10) rfl rfl Try.func45 (by kernel_rfl) rfl #[.agg #[.slice A0_0 l0_0.length c0_0, .slice A0_1 l0_1.length c0_1]] rfl (by (try simp only [List.map_toArray, List.map_cons, List.map_nil]); first | done | rfl | (simp only [List.length_drop, List.length_take]; rfl)) ?_; (with_reducible refine (outline_clone.calls _ _ l0_0 _ _ l0_1 t157 t160 _ ?side1 ?side2 ?side3 ?side4 A4.out).mono ?_); (case side1 => repeat (first | exact (Kd.C_below HR0_0.out HB.out) | (with_reducible refine Kd.C_alloc ?_ _) | (with_reducible refine Kd.C_drewN ?_ _) | (with_reducible refine Kd.C_drew ?_))); (case side2 => exact HC0_0.out); (case side3 => repeat (first | exact (Kd.C_below HR0_1.out HB.out) | (with_reducible refine Kd.C_alloc ?_ _) | (with_reducible refine Kd.C_drewN ?_ _) | (with_reducible refine Kd.C_drew ?_))); (case side4 => exact HC0_1.out); rintro e w9 ⟨v158, v161, rfl, ho0, ho1, hb⟩; refine ⟨_, rfl, ?_⟩; have n0_ := aM (Kd.R_lower ho0 (below_size (by repeat (first | (with_reducible first | exact HB.out | apply bA | apply bN | apply bD | refine bS ?_ GE155.out | refine bS ?_ GE156.out) | exact HB.out)))); have n1_ := aM (Kd.R_lower ho1 (below_size (by repeat (first | (with_reducible first | exact HB.out | apply bA | apply bN | apply bD | refine bS ?_ GE155.out | refine bS ?_ GE156.out) | exact HB.out)))); have n2_ := aM (blk_below (g := gb155) (o := .cells #[.slice A0_0 l0_0.length c0_0, .slice A0_1 l0_1.length c0_1] 25 (0, 0)) (by (with_reducible repeat (first | refine kN ?_ _ | refine kD ?_ | refine kA ?_ _)); exact BK155.out) hb); have n3_ := aM (blk_below (g := gb156) (o := .cells #[.slice none 0 0, .slice none 0 0] 25 (0, 0)) (by (with_reducible repeat (first | refine kN ?_ _ | refine kD ?_ | refine kA ?_ _)); exact BK156.out) hb); have n4_ := aM (below_step (by repeat (first | (with_reducible first | exact HB.out | apply bA | apply bN | apply bD | refine bS ?_ GE155.out | refine bS ?_ GE156.out) | exact HB.out)) hb); clear BK155; clear BK156; clear HB; have HO159 := n0_; have HO162 := n1_; have BK155 := n2_; have BK156 := n3_; have HB := n4_; clear n0_ n1_ n2_ n3_ n4_; (try clear hb); (try clear hb2); (try clear hk); (try clear hi); (try clear ho0); (try clear ho1)) | ((with_reducible refine gate_dst (N := 7) rfl ?_); refine box_event ?hg (N := 7) ?hd (cs := #[.slice none 0 0, .slice none 0 0]) (t := 25) ?hr ?_; (case hd => rfl); (case hg => rfl); (case hr => first | (go_simp; done) | (go_simp; rfl)); intro gb163 hg w10 hbox hb; have n0_ := aM (Kd.R_below (by (with_reducible repeat (first | apply Kd.R_alloc | apply Kd.R_drewN | apply Kd.R_drew)); exact HO159.out) hb); have n1_ := aM (Kd.R_below (by (with_reducible repeat (first | apply Kd.R_alloc | apply Kd.R_drewN | apply Kd.R_drew)); exact HO162.out) hb); have n2_ := aM (blk_below (g := gb155) (o := .cells #[.slice A0_0 l0_0.length c0_0, .slice A0_1 l0_1.length c0_1] 25 (0, 0)) (by (with_reducible repeat (first | refine kN ?_ _ | refine kD ?_ | refine kA ?_ _)); exact BK155.out) hb); have n3_ := aM (blk_below (g := gb156) (o := .cells #[.slice none 0 0, .slice none 0 0] 25 (0, 0)) (by (with_reducible repeat (first | refine kN ?_ _ | refine kD ?_ | refine kA ?_ _)); exact BK156.out) hb); have n4_ := aM (below_step (by repeat (first | (with_reducible first | exact HB.out | apply bA | apply bN | apply bD | refine bS ?_ GE155.out | refine bS ?_ GE156.out) | exact HB.out)) hb); have n5_ := aM (hbox); have n6_ := aM ((by rw [hg]; exact (below_size (by repeat (first | (with_reducible first | exact HB.out | apply bA | apply bN | apply bD | refine bS ?_ GE155.out | refine bS ?_ GE156.out) | exact HB.out))) : w.heap.size ≤ gb163)); have n7_ := aM ((by rw [hg]; exact (below_size (by repeat (first | (with_reducible first | exact HB.out | apply bA | apply bN | apply bD | refine bS ?_ GE155.out | refine bS ?_ GE156.out) | exact HB.out))) : w.heap.size ≤ gb163)); have n8_ := aM ((by rw [hg]; exact Nat.ne_of_lt (blk_lt (g := gb155) (o := .cells #[.slice A0_0 l0_0.length c0_0, .slice A0_1 l0_1.length c0_1] 25 (0, 0)) (by (with_reducible repeat (first | refine kN ?_ _ | refine kD ?_ | refine kA ?_ _)); exact BK155.out)) : gb155 ≠ gb163)); have n9_ := aM ((by rw [hg]; exact Nat.ne_of_gt (blk_lt (g := gb155) (o := .cells #[.slice A0_0 l0_0.length c0_0, .slice A0_1 l0_1.length c0_1] 25 (0, 0)) (by (with_reducible repeat (first | refine kN ?_ _ | refine kD ?_ | refine kA ?_ _)); exact BK155.out)) : gb163 ≠ gb155)); have n10_ := aM ((by rw [hg]; exact Nat.ne_of_lt (blk_lt (g := gb156) (o := .cells #[.slice none 0 0, .slice none 0 0] 25 (0, 0)) (by (with_reducible repeat (first | refine kN ?_ _ | refine kD ?_ | refine kA ?_ _)); exact BK156.out)) : gb156 ≠ gb163)); have n11_ := aM ((by rw [hg]; exact Nat.ne_of_gt (blk_lt (g := gb156) (o := .cells #[.slice none 0 0, .slice none 0 0] 25 (0, 0)) (by (with_reducible repeat (first | refine kN ?_ _ | refine kD ?_ | refine kA ?_ _)); exact BK156.out)) : gb163 ≠ gb156)); clear HO159; clear HO162; clear BK155; clear BK156; clear HB; have HO159 := n0_; have HO162 := n1_; have BK155 := n2_; have BK156 := n3_; have HB := n4_; have BK163 := n5_; have GW163 := n6_; have GE163 := n7_; have NB155_163 := n8_; have NB163_155 := n9_; have NB156_163 := n10_; have NB163_156 := n11_; clear n0_ n1_ n2_ n3_ n4_ n5_ n6_ n7_ n8_ n9_ n10_ n11_; clear hb hbox hg; obtain ⟨Ao11, co11, eo11⟩ := Kd.R_slice HO159.out; subst eo11; have hnb12 := NB163_155.out; have hnc12 := NB155_163.out; have hnb13 := NB163_156.out; have hnc13 := NB156_163.out; have hcz14_0 : w10.cell? ⟨gb163, 0, none⟩ = some (.slice none 0 0) := (blk_cell BK163.out 0).trans rfl; have hcz14_1 : w10.cell? ⟨gb163, 1, none⟩ = some (.slice none 0 0) := (blk_cell BK163.out 1).trans rfl; have hfz14_0 := blk_frozen BK163.out 0; have hfz14_1 := blk_frozen BK163.out 1; obtain ⟨Ao15, co15, eo15⟩ := Kd.R_slice HO162.out; subst eo15))
 go_loopg [14] k (fun kq v14 w' => ∃ (x14_1 : Int) (x164000_1 : List (S33)) (u164000 : Value), v14 = .int .i64 x14_1 ∧ Aside0 (outline_Moved.l0 kq a1 a2 (t157.length : Int) x14_1 x164000_1 t160 = some (r1, r2)) ∧ Aside0 (kq ≤ k) ∧ Aside0 (Kd.R k33 33 w' w.heap.size (fun _ => True) u164000 x164000_1) ∧ Aside0 (Kd.R (Kd.int .i64) 3 w' w.heap.size (fun _ => True) (.slice Ao15 t160.length co15) t160) ∧ Aside0 (w'.heap[gb155]? = some (.cells #[(.slice A0_0 l0_0.length c0_0), (.slice A0_1 l0_1.length c0_1)] 25 (0, 0))) ∧ Aside0 (w'.heap[gb156]? = some (.cells #[(.slice none 0 0), (.slice none 0 0)] 25 (0, 0))) ∧ Aside0 (w'.heap[gb163]? = some (.cells #[u164000, (.slice Ao15 t160.length co15)] 25 (0, 0))) ∧ Aside0 (Below w.heap.size w w'))
 case atStart => exact ⟨(0), (t157), (.slice Ao11 t157.length co11), (by first | rfl | (simp; done) | (simp [*]; done)), H', ⟨Nat.le_refl _⟩, ⟨by (with_reducible repeat (first | apply Kd.R_alloc | apply Kd.R_drewN | apply Kd.R_drew)); exact Kd.R_mono (Kd.R_far (p := ⟨gb163, 1, none⟩) (Kd.R_far (p := ⟨gb163, 0, none⟩) (Kd.R_types HO159.out BK163.out (by decide)) (fun _ hk => hk.2) (.slice Ao11 t157.length co11)) (fun _ hk => hk.2) (.slice Ao15 t160.length co15)) (fun _ hk => trivial)⟩, ⟨by (with_reducible repeat (first | apply Kd.R_alloc | apply Kd.R_drewN | apply Kd.R_drew)); exact Kd.R_mono (Kd.R_far (p := ⟨gb163, 1, none⟩) (Kd.R_far (p := ⟨gb163, 0, none⟩) (Kd.R_types HO162.out BK163.out (by decide)) (fun _ hk => hk.2) (.slice Ao11 t157.length co11)) (fun _ hk => hk.2) (.slice Ao15 t160.length co15)) (fun _ hk => trivial)⟩, ⟨by (with_reducible repeat (first | refine kN ?_ _ | refine kD ?_ | refine kA ?_ _)); refine blk_far ?_ NB155_163.out _; (with_reducible repeat (first | refine kN ?_ _ | refine kD ?_ | refine kA ?_ _)); refine blk_far ?_ NB155_163.out _; (with_reducible repeat (first | refine kN ?_ _ | refine kD ?_ | refine kA ?_ _)); exact BK155.out⟩, ⟨by (with_reducible repeat (first | refine kN ?_ _ | refine kD ?_ | refine kA ?_ _)); refine blk_far ?_ NB156_163.out _; (with_reducible repeat (first | refine kN ?_ _ | refine kD ?_ | refine kA ?_ _)); refine blk_far ?_ NB156_163.out _; (with_reducible repeat (first | refine kN ?_ _ | refine kD ?_ | refine kA ?_ _)); exact BK156.out⟩, ⟨by (with_reducible repeat (first | refine kN ?_ _ | refine kD ?_ | refine kA ?_ _)); refine blk_put (cs := #[.slice Ao11 t157.length co11, .slice none 0 0]) ?_ 1 _ rfl; (with_reducible repeat (first | refine kN ?_ _ | refine kD ?_ | refine kA ?_ _)); refine blk_put (cs := #[.slice none 0 0, .slice none 0 0]) ?_ 0 _ rfl; (with_reducible repeat (first | refine kN ?_ _ | refine kD ?_ | refine kA ?_ _)); exact BK163.out⟩, ⟨by repeat (first | (with_reducible first | exact HB.out | apply bA | apply bN | apply bD | refine bS ?_ GE155.out | refine bS ?_ GE156.out | refine bS ?_ GE163.out) | exact HB.out)⟩⟩
 case round =>
  clear H'
  try clear c1
  try clear c2
  try clear p2
  try clear c4
  try clear c7
  try clear c12
  try clear c13
  try clear hcz14_0
  try clear hcz14_1
  try clear hcz8_0
  try clear hcz8_1
  try clear hfz14_0
  try clear hfz14_1
  try clear hfz8_0
  try clear hfz8_1
  obtain ⟨x14_1, x164000_1, u164000, rfl, HA, HK1, HO_164000, HO_164001, BK155, BK156, BK163, HB⟩ := hrel
  cases gk with
  | zero => exact absurd HA.out (by simp [outline_Moved.l0])
  | succ k1 =>
   have H := HA.out
   clear HA
   simp only [outline_Moved.l0] at H
   by_cases c16 : x14_1 < (t157.length : Int)
   ·
    rw [if_pos c16] at H
    have c16b0 : decide (x14_1 < (t157.length : Int)) = true := decide_eq_true c16
    clear c16
    by_cases c17 : 0 ≤ x14_1
    ·
     rw [if_pos c17] at H
     have c17b0 : decide (0 ≤ x14_1) = true := decide_eq_true c17
     clear c17
     by_cases c18 : x14_1 < (x164000_1.length : Int)
     ·
      rw [if_pos c18] at H
      have c18b0 : decide (x14_1 < (x164000_1.length : Int)) = true := decide_eq_true c18
      clear c18
      obtain ⟨y165, hy165⟩ : ∃ y_ : List (S33), y_ = (x164000_1.set (x14_1 : Int).toNat (⟨wrap64 (((rd_T33 x164000_1 x14_1).f0) + a1), (rd_T33 x164000_1 x14_1).f1, (rd_T33 x164000_1 x14_1).f2⟩ : S33)) := ⟨_, rfl⟩
      replace H : (outline_Moved.l0 k1 a1 a2 (t157.length : Int) (wrap64 (x14_1 + 1)) (y165.set (x14_1 : Int).toNat (⟨(rd_T33 y165 x14_1).f0, wrap64 (((rd_T33 y165 x14_1).f1) + a2), (rd_T33 y165 x14_1).f2⟩ : S33)) t160) = some (r1, r2) := by first | (rw [hy165]; with_reducible exact H) | (have H2_ := (Option.bind_some _ _).symm.trans H; rw [hy165]; with_reducible exact H2_) | (have H2_ := (Option.bind_some _ _).symm.trans H; with_reducible exact H2_) | with_reducible exact H | (rw [hy165]; exact H) | exact H
      have Ny165 := aM hy165
      clear hy165
      obtain ⟨y167, hy167⟩ : ∃ y_ : List (S33), y_ = (y165.set (x14_1 : Int).toNat (⟨(rd_T33 y165 x14_1).f0, wrap64 (((rd_T33 y165 x14_1).f1) + a2), (rd_T33 y165 x14_1).f2⟩ : S33)) := ⟨_, rfl⟩
      replace H : (outline_Moved.l0 k1 a1 a2 (t157.length : Int) (wrap64 (x14_1 + 1)) y167 t160) = some (r1, r2) := by first | (rw [hy167]; with_reducible exact H) | (have H2_ := (Option.bind_some _ _).symm.trans H; rw [hy167]; with_reducible exact H2_) | (have H2_ := (Option.bind_some _ _).symm.trans H; with_reducible exact H2_) | with_reducible exact H | (rw [hy167]; exact H) | exact H
      have Ny167 := aM hy167
      clear hy167
      have H' := aM H
      clear H
      have hnb21 := NB163_155.out
      have hnc21 := NB155_163.out
      have hnb22 := NB163_156.out
      have hnc22 := NB156_163.out
      have hcz23_0 : wr.cell? ⟨gb163, 0, none⟩ = some (u164000) := (blk_cell BK163.out 0).trans rfl
      have hcz23_1 : wr.cell? ⟨gb163, 1, none⟩ = some (.slice Ao15 t160.length co15) := (blk_cell BK163.out 1).trans rfl
      have hfz23_0 := blk_frozen BK163.out 0
      have hfz23_1 := blk_frozen BK163.out 1
      obtain ⟨Ao24, co24, eo24⟩ := Kd.R_slice HO_164000.out
      subst eo24
      have p164 : 0 ≤ (x14_1 : Int) := dT (by assumption)
      have q164 : x14_1 < (x164000_1.length : Int) := dT (by assumption)
      obtain ⟨ad164, e164, hx164_0, hx164_1, hx164_2⟩ := at_T33 (Kd.R_reads' HO_164000.out).2.2 x14_1 p164 q164
      cases e164
      replace p164 := eq_true p164
      replace q164 := eq_true q164
      have p19 : 0 ≤ (x14_1 : Int) := dT (by assumption)
      have q19 : (x14_1 : Int) < ((x164000_1.length : Int) : Int) := dT (by assumption)
      obtain ⟨go19, co19, eo19, gb19, gl19, cl19, HG19⟩ := Kd.R_form HO_164000.out (by omega)
      (first | cases eo19 | (injection eo19 with ea_ en_ ec_; (first | subst ea_ | (injection ea_ with ea_; subst ea_)); subst ec_; clear en_))
      have GB19 := aM gb19
      have GG19 := aM HG19
      clear gb19 gl19 HG19
      (first | simp only [add_plain] at hx164_0 | skip)
      (first | simp only [add_plain] at hx164_1 | skip)
      (first | simp only [add_plain] at hx164_2 | skip)
      obtain ⟨ce19, hcl19, hM19, hcc19, hfr19⟩ := Kd.R_elem HO_164000.out z33 (x14_1 : Int) p19 q19
      obtain rfl := k33_openM hM19
      have hx19_0 : wr.cell? ⟨go19, (x14_1 : Int).toNat * 3, none⟩ = some (.int .i64 ((rd_T33 x164000_1 x14_1).f0)) := hcc19 0 _ rfl
      have hx19_1 : wr.cell? ⟨go19, (x14_1 : Int).toNat * 3 + 1, none⟩ = some (.int .i64 ((rd_T33 x164000_1 x14_1).f1)) := hcc19 1 _ rfl
      have hx19_2 : wr.cell? ⟨go19, (x14_1 : Int).toNat * 3 + 2, none⟩ = some (.bool ((rd_T33 x164000_1 x14_1).f2)) := hcc19 2 _ rfl
      have hf19_0 : wr.frozen? ⟨go19, (x14_1 : Int).toNat * 3, none⟩ = false := hfr19 0
      have hf19_1 : wr.frozen? ⟨go19, (x14_1 : Int).toNat * 3 + 1, none⟩ = false := hfr19 1
      have hf19_2 : wr.frozen? ⟨go19, (x14_1 : Int).toNat * 3 + 2, none⟩ = false := hfr19 2
      clear hcl19 hcc19 hfr19 hM19
      replace p19 := eq_true p19
      replace q19 := eq_true q19
      have HX25 := aM (show Kd.R k33 33 wr w.heap.size (fun _ => True) (.slice (some ⟨go19, 0, none⟩) x164000_1.length co24) x164000_1 from (by (with_reducible repeat (first | apply Kd.R_alloc | apply Kd.R_drewN | apply Kd.R_drew)); exact HO_164000.out))
      obtain ⟨ce25, hcl25, hM25, hcc25, hfr25⟩ := Kd.R_elem HX25.out z33 (x14_1 : Int) (dT (by assumption)) (by have h_ : (x14_1 : Int) < ((x164000_1.length : Int) : Int) := dT (by assumption); first | exact h_ | (have e_ := (Kd.R_reads' HO_164000.out).1; omega) | simpa using h_)
      obtain rfl := k33_openM hM25
      have HP25 := Kd.R_seg HX25.out (x14_1 : Int) (dT (by assumption)) (by have h_ : (x14_1 : Int) < ((x164000_1.length : Int) : Int) := dT (by assumption); first | exact h_ | (have e_ := (Kd.R_reads' HO_164000.out).1; omega) | simpa using h_) (seg := [.int .i64 (wrap64 (((rd_T33 x164000_1 x14_1).f0) + a1))]) (j := 0) hcl25 hcc25 (show 1 ≤ 3 from by decide) (x' := (⟨wrap64 (((rd_T33 x164000_1 x14_1).f0) + a1), (rd_T33 x164000_1 x14_1).f1, (rd_T33 x164000_1 x14_1).f2⟩ : S33)) (k33_mkM _ _ _ (⟨wrap64 (((rd_T33 x164000_1 x14_1).f0) + a1), (rd_T33 x164000_1 x14_1).f1, (rd_T33 x164000_1 x14_1).f2⟩ : S33) ) (fun _ hk => hk)
      have hx25_0 := hcc25 0 _ rfl
      (try simp only [show (k33).sz = 3 from rfl, Nat.mul_one, Nat.add_zero] at hx25_0)
      have hf25_0 := hfr25 0
      (try simp only [show (k33).sz = 3 from rfl, Nat.mul_one, Nat.add_zero] at hf25_0)
      clear hcl25 hcc25 hfr25 hM25
      go_wp2_with (first | ((with_reducible refine gate_store (t := 3) (p := 26) rfl ?_); refine store_event (t := 3) (p := 26) (v := ?vo_w26) (w1 := (wr.setCell ⟨go19, (x14_1 : Int).toNat * 3, none⟩ (.int .i64 (wrap64 (((rd_T33 x164000_1 x14_1).f0) + a1))))) ?hg ?ho ?hn ?hr ?_; (case ho => rfl); (case hg => rfl); (case hn => rfl); (case hr => first | (go_simp; done) | (go_simp; rfl)); intro w26 hw; have hg : wr.grownBy w26 (some go19) := (by rw [hw]; exact HP25.2); have hp_ : Kd.R k33 33 w26 w.heap.size (fun _ => True) (.slice (some ⟨go19, 0, none⟩) x164000_1.length co24) y165 := (by rw [hw, Ny165.out]; exact HP25.1); clear HP25; have n0_ := aM (hp_); have n1_ := aM (Kd.R_over' (v := (.slice (some ⟨go19, 0, none⟩) x164000_1.length co24)) (by (with_reducible repeat (first | apply Kd.R_alloc | apply Kd.R_drewN | apply Kd.R_drew)); exact HO_164001.out) (Kd.R_typed HO_164000.out) (by decide) hg); have n2_ := aM (blk_grown (g := gb155) (o := .cells #[.slice A0_0 l0_0.length c0_0, .slice A0_1 l0_1.length c0_1] 25 (0, 0)) (by (with_reducible repeat (first | refine kN ?_ _ | refine kD ?_ | refine kA ?_ _)); exact BK155.out) hg (Kd.R_ne HO_164000.out BK155.out (by decide))); have n3_ := aM (blk_grown (g := gb156) (o := .cells #[.slice none 0 0, .slice none 0 0] 25 (0, 0)) (by (with_reducible repeat (first | refine kN ?_ _ | refine kD ?_ | refine kA ?_ _)); exact BK156.out) hg (Kd.R_ne HO_164000.out BK156.out (by decide))); have n4_ := aM (blk_grown (g := gb163) (o := .cells #[.slice (some ⟨go19, 0, none⟩) x164000_1.length co24, .slice Ao15 t160.length co15] 25 (0, 0)) (by (with_reducible repeat (first | refine kN ?_ _ | refine kD ?_ | refine kA ?_ _)); exact BK163.out) hg (Kd.R_ne HO_164000.out BK163.out (by decide))); have n5_ := aM ((by rw [hw]; exact bS (HB.out) GB19.out : Below w.heap.size w w26)); clear HO_164000; clear HO_164001; clear BK155; clear BK156; clear BK163; clear HB; have HO_164000 := n0_; have HO_164001 := n1_; have BK155 := n2_; have BK156 := n3_; have BK163 := n4_; have HB := n5_; clear n0_ n1_ n2_ n3_ n4_ n5_; clear hg hw hp_; have hcz27_0 : w26.cell? ⟨gb163, 0, none⟩ = some (.slice (some ⟨go19, 0, none⟩) x164000_1.length co24) := (blk_cell BK163.out 0).trans rfl; have hcz27_1 : w26.cell? ⟨gb163, 1, none⟩ = some (.slice Ao15 t160.length co15) := (blk_cell BK163.out 1).trans rfl; have hfz27_0 := blk_frozen BK163.out 0; have hfz27_1 := blk_frozen BK163.out 1; have p166 : 0 ≤ (x14_1 : Int) := dT (by assumption); have q166 : x14_1 < (y165.length : Int) := (by have h_ : (x14_1 : Int) < ((x164000_1.length : Int) : Int) := dT (by assumption); first | (have e_ := (Kd.R_reads' HO_164000.out).1; omega) | simpa only [Ny165.out, List.length_set] using h_); have ql166 : ((x14_1 : Int) < ((x164000_1.length : Int) : Int)) = True := eq_true (dT (by assumption)); obtain ⟨ad166, e166, hx166_0, hx166_1, hx166_2⟩ := at_T33 (Kd.R_reads' HO_164000.out).2.2 x14_1 p166 q166; obtain rfl : (⟨go19, 0, none⟩ : Addr) = ad166 := (by injection e166); (first | simp only [add_plain] at hx166_0 | simp only [add_at] at hx166_0 | simp only [Addr.add, Nat.zero_add] at hx166_0 | skip); (first | simp only [add_plain] at hx166_1 | simp only [add_at] at hx166_1 | simp only [Addr.add, Nat.zero_add] at hx166_1 | skip); (first | simp only [add_plain] at hx166_2 | simp only [add_at] at hx166_2 | simp only [Addr.add, Nat.zero_add] at hx166_2 | skip); replace p166 := eq_true p166; replace q166 := eq_true q166; have p20 : 0 ≤ (x14_1 : Int) := dT (by assumption); have q20 : (x14_1 : Int) < ((x164000_1.length : Int) : Int) := dT (by assumption); obtain ⟨ce20, hcl20, hM20, hcc20, hfr20⟩ := Kd.R_elem HO_164000.out z33 (x14_1 : Int) p20 q20; obtain rfl := k33_openM hM20; have hx20_0 : w26.cell? ⟨go19, (x14_1 : Int).toNat * 3, none⟩ = some (.int .i64 ((rd_T33 y165 x14_1).f0)) := hcc20 0 _ rfl; have hx20_1 : w26.cell? ⟨go19, (x14_1 : Int).toNat * 3 + 1, none⟩ = some (.int .i64 ((rd_T33 y165 x14_1).f1)) := hcc20 1 _ rfl; have hx20_2 : w26.cell? ⟨go19, (x14_1 : Int).toNat * 3 + 2, none⟩ = some (.bool ((rd_T33 y165 x14_1).f2)) := hcc20 2 _ rfl; have hf20_0 : w26.frozen? ⟨go19, (x14_1 : Int).toNat * 3, none⟩ = false := hfr20 0; have hf20_1 : w26.frozen? ⟨go19, (x14_1 : Int).toNat * 3 + 1, none⟩ = false := hfr20 1; have hf20_2 : w26.frozen? ⟨go19, (x14_1 : Int).toNat * 3 + 2, none⟩ = false := hfr20 2; clear hcl20 hcc20 hfr20 hM20; replace p20 := eq_true p20; replace q20 := eq_true q20; have HX28 := aM (show Kd.R k33 33 w26 w.heap.size (fun _ => True) (.slice (some ⟨go19, 0, none⟩) x164000_1.length co24) y165 from (by (with_reducible repeat (first | apply Kd.R_alloc | apply Kd.R_drewN | apply Kd.R_drew)); exact HO_164000.out)); obtain ⟨ce28, hcl28, hM28, hcc28, hfr28⟩ := Kd.R_elem HX28.out z33 (x14_1 : Int) (dT (by assumption)) (by have h_ : (x14_1 : Int) < ((x164000_1.length : Int) : Int) := dT (by assumption); first | exact h_ | (have e_ := (Kd.R_reads' HO_164000.out).1; omega) | simpa using h_); obtain rfl := k33_openM hM28; have HP28 := Kd.R_seg HX28.out (x14_1 : Int) (dT (by assumption)) (by have h_ : (x14_1 : Int) < ((x164000_1.length : Int) : Int) := dT (by assumption); first | exact h_ | (have e_ := (Kd.R_reads' HO_164000.out).1; omega) | simpa using h_) (seg := [.int .i64 (wrap64 (((rd_T33 y165 x14_1).f1) + a2))]) (j := 1) hcl28 hcc28 (show 2 ≤ 3 from by decide) (x' := (⟨(rd_T33 y165 x14_1).f0, wrap64 (((rd_T33 y165 x14_1).f1) + a2), (rd_T33 y165 x14_1).f2⟩ : S33)) (k33_mkM _ _ _ (⟨(rd_T33 y165 x14_1).f0, wrap64 (((rd_T33 y165 x14_1).f1) + a2), (rd_T33 y165 x14_1).f2⟩ : S33) ) (fun _ hk => hk); have hx28_1 := hcc28 1 _ rfl; (try simp only [show (k33).sz = 3 from rfl, Nat.mul_one, Nat.add_zero] at hx28_1); have hf28_1 := hfr28 1; (try simp only [show (k33).sz = 3 from rfl, Nat.mul_one, Nat.add_zero] at hf28_1); clear hcl28 hcc28 hfr28 hM28) | ((with_reducible refine gate_store (t := 3) (p := 36) rfl ?_); refine store_event (t := 3) (p := 36) (v := ?vo_w29) (w1 := (w26.setCell ⟨go19, (x14_1 : Int).toNat * 3 + 1, none⟩ (.int .i64 (wrap64 (((rd_T33 y165 x14_1).f1) + a2))))) ?hg ?ho ?hn ?hr ?_; (case ho => rfl); (case hg => rfl); (case hn => rfl); (case hr => first | (go_simp; done) | (go_simp; rfl)); intro w29 hw; have hg : w26.grownBy w29 (some go19) := (by rw [hw]; exact HP28.2); have hp_ : Kd.R k33 33 w29 w.heap.size (fun _ => True) (.slice (some ⟨go19, 0, none⟩) x164000_1.length co24) y167 := (by rw [hw, Ny167.out]; exact HP28.1); clear HP28; have n0_ := aM (hp_); have n1_ := aM (Kd.R_over' (v := (.slice (some ⟨go19, 0, none⟩) x164000_1.length co24)) (by (with_reducible repeat (first | apply Kd.R_alloc | apply Kd.R_drewN | apply Kd.R_drew)); exact HO_164001.out) (Kd.R_typed HO_164000.out) (by decide) hg); have n2_ := aM (blk_grown (g := gb155) (o := .cells #[.slice A0_0 l0_0.length c0_0, .slice A0_1 l0_1.length c0_1] 25 (0, 0)) (by (with_reducible repeat (first | refine kN ?_ _ | refine kD ?_ | refine kA ?_ _)); exact BK155.out) hg (Kd.R_ne HO_164000.out BK155.out (by decide))); have n3_ := aM (blk_grown (g := gb156) (o := .cells #[.slice none 0 0, .slice none 0 0] 25 (0, 0)) (by (with_reducible repeat (first | refine kN ?_ _ | refine kD ?_ | refine kA ?_ _)); exact BK156.out) hg (Kd.R_ne HO_164000.out BK156.out (by decide))); have n4_ := aM (blk_grown (g := gb163) (o := .cells #[.slice (some ⟨go19, 0, none⟩) x164000_1.length co24, .slice Ao15 t160.length co15] 25 (0, 0)) (by (with_reducible repeat (first | refine kN ?_ _ | refine kD ?_ | refine kA ?_ _)); exact BK163.out) hg (Kd.R_ne HO_164000.out BK163.out (by decide))); have n5_ := aM ((by rw [hw]; exact bS (HB.out) GB19.out : Below w.heap.size w w29)); clear HO_164000; clear HO_164001; clear BK155; clear BK156; clear BK163; clear HB; have HO_164000 := n0_; have HO_164001 := n1_; have BK155 := n2_; have BK156 := n3_; have BK163 := n4_; have HB := n5_; clear n0_ n1_ n2_ n3_ n4_ n5_; clear hg hw hp_))
      go_roundg k1
      case measure => have := HK1.out; omega
      case rel => exact ⟨(wrap64 (x14_1 + 1)), (y167), (.slice (some ⟨go19, 0, none⟩) x164000_1.length co24), (by first | rfl | (simp; done) | (simp [*]; done)), H', ⟨by have := HK1.out; omega⟩, ⟨by (with_reducible repeat (first | apply Kd.R_alloc | apply Kd.R_drewN | apply Kd.R_drew)); exact HO_164000.out⟩, ⟨by (with_reducible repeat (first | apply Kd.R_alloc | apply Kd.R_drewN | apply Kd.R_drew)); exact HO_164001.out⟩, ⟨by (with_reducible repeat (first | refine kN ?_ _ | refine kD ?_ | refine kA ?_ _)); exact BK155.out⟩, ⟨by (with_reducible repeat (first | refine kN ?_ _ | refine kD ?_ | refine kA ?_ _)); exact BK156.out⟩, ⟨by (with_reducible repeat (first | refine kN ?_ _ | refine kD ?_ | refine kA ?_ _)); exact BK163.out⟩, ⟨by repeat (first | (with_reducible first | exact HB.out | apply bA | apply bN | apply bD | refine bS ?_ GE155.out | refine bS ?_ GE156.out | refine bS ?_ GE163.out) | exact HB.out)⟩⟩
     ·
      rw [if_neg c18] at H
      exact absurd H (by simp)
    ·
     rw [if_neg c17] at H
     exact absurd H (by simp)
   ·
    rw [if_neg c16] at H
    have c16b0 : decide (x14_1 < (t157.length : Int)) = false := decide_eq_false c16
    clear c16
    simp only [Option.some.injEq, Prod.mk.injEq] at H
    obtain ⟨rfl, rfl⟩ := H
    have hnb30 := NB163_155.out
    have hnc30 := NB155_163.out
    have hnb31 := NB163_156.out
    have hnc31 := NB156_163.out
    have hcz32_0 : wr.cell? ⟨gb163, 0, none⟩ = some (u164000) := (blk_cell BK163.out 0).trans rfl
    have hcz32_1 : wr.cell? ⟨gb163, 1, none⟩ = some (.slice Ao15 t160.length co15) := (blk_cell BK163.out 1).trans rfl
    have hfz32_0 := blk_frozen BK163.out 0
    have hfz32_1 := blk_frozen BK163.out 1
    obtain ⟨Ao33, co33, eo33⟩ := Kd.R_slice HO_164000.out
    subst eo33
    have hnb34 := NB156_155.out
    have hnc34 := NB155_156.out
    have hcz35_0 : wr.cell? ⟨gb156, 0, none⟩ = some (.slice none 0 0) := (blk_cell BK156.out 0).trans rfl
    have hcz35_1 : wr.cell? ⟨gb156, 1, none⟩ = some (.slice none 0 0) := (blk_cell BK156.out 1).trans rfl
    have hfz35_0 := blk_frozen BK156.out 0
    have hfz35_1 := blk_frozen BK156.out 1
    go_wp2
    refine bodyPost_ret (results_cell_row rfl _ _ gb156 25 #[.slice Ao33 x164000_1.length co33, .slice Ao15 t160.length co15] (0, 0) _ rfl (by (with_reducible repeat (first | refine kN ?_ _ | refine kD ?_ | refine kA ?_ _)); refine blk_put (cs := #[.slice Ao33 x164000_1.length co33, .slice none 0 0]) ?_ 1 _ rfl; (with_reducible repeat (first | refine kN ?_ _ | refine kD ?_ | refine kA ?_ _)); refine blk_put (cs := #[.slice none 0 0, .slice none 0 0]) ?_ 0 _ rfl; (with_reducible repeat (first | refine kN ?_ _ | refine kD ?_ | refine kA ?_ _)); exact BK156.out) Try.underlying25 rfl (by kernel_rfl)) rfl ?_
    exact ⟨_, _, by first | rfl | (simp [errW_none, errW_some] <;> rfl) | (simp [*, errW_none, errW_some] <;> rfl), by (with_reducible repeat (first | apply Kd.R_alloc | apply Kd.R_drewN | apply Kd.R_drew)); exact Kd.R_mono (Kd.R_far (p := ⟨gb156, 1, none⟩) (Kd.R_far (p := ⟨gb156, 0, none⟩) (Kd.R_types HO_164000.out BK156.out (by decide)) (fun _ hk => hk.2) (.slice Ao33 x164000_1.length co33)) (fun _ hk => hk.2) (.slice Ao15 t160.length co15)) (fun _ hk => trivial), by (with_reducible repeat (first | apply Kd.R_alloc | apply Kd.R_drewN | apply Kd.R_drew)); exact Kd.R_mono (Kd.R_far (p := ⟨gb156, 1, none⟩) (Kd.R_far (p := ⟨gb156, 0, none⟩) (Kd.R_types HO_164001.out BK156.out (by decide)) (fun _ hk => hk.2) (.slice Ao33 x164000_1.length co33)) (fun _ hk => hk.2) (.slice Ao15 t160.length co15)) (fun _ hk => trivial), by repeat (first | (with_reducible first | exact HB.out | apply bA | apply bN | apply bD | refine bS ?_ GE155.out | refine bS ?_ GE156.out | refine bS ?_ GE163.out) | exact HB.out)⟩
-- NOT PRINTED: function 47 (outline_cuts)
end Go.Proofs.Ytbmklpcheopgoaa.H

namespace Go.Proofs.Ytbmklpcheopgoaa.H
open Go.RowKit Go.Shelf Go.Proofs.YtbmklpcheopgoaaW.PrintWords Go.Proofs.YtbmklpcheopgoaaW.PrintLast Go.Proofs.YtbmklpcheopgoaaW.PrintMore Go.Proofs.YtbmklpcheopgoaaIt
attribute [local go_sem] Oper.semAt_some
theorem wide_depth : Fence.wide.depth = none := rfl
theorem wide_fn (f : FuncId) : Fence.wide.fn f = True := rfl
attribute [local go_sem] wide_depth wide_fn

/-- The cuts: where each begins, and where the next one does. -/
def cutsF : Int → List Int → Int → List (Int × Int)
  | _, [], _ => []
  | b, e :: es, n => if e < b ∨ n ≤ e then [] else (b, e + 1) :: cutsF (e + 1) es n
def cutsL (es : List Int) (n : Int) : List (Int × Int) := cutsF 0 es n

theorem cutsF_drop (es : List Int) (b n : Int) (i : Nat) (h : i < es.length) : cutsF b (es.drop i) n = if rd es i < b ∨ n ≤ rd es i then [] else (b, rd es i + 1) :: cutsF (rd es i + 1) (es.drop (i + 1)) n := by
  rw [List.drop_eq_getElem_cons h]
  simp [cutsF, rd, h]

/-- A slice's own block. -/
def BlkOf (A : Option Addr) (b : Nat) : Prop := ∃ ad, A = some ad ∧ b = ad.block

theorem add_block (ad : Addr) (j : Nat) : (ad.add j).block = ad.block := by unfold Addr.add; split <;> rfl

theorem at_int_chg {S : Nat → Prop} {w W : World} {A : Option Addr} {n : Nat} {xs : List Int} {k : IntKind} (h : (Kd.int k).C w A n xs) (hc : Chg S w W) (hA : ∀ b, b < w.heap.size → BlkOf A b → ¬ S b) (i : Int) (h0 : 0 ≤ i) (h1 : i < n) :
    ∃ ad, A = some ad ∧ W.cell? (ad.add i.toNat) = some (.int k (rd xs i)) := by
  obtain ⟨ad, e, hx⟩ := Kd.at_int h i h0 h1
  refine ⟨ad, e, ?_⟩
  have hb : (ad.add i.toNat).block < w.heap.size := World.block_lt_of_cell? w _ hx
  exact (hc.cell hb (hA _ hb ⟨ad, e, add_block _ _⟩)).trans hx

theorem cuts_calls (n : Nat) (A : Option Addr) (len cap : Nat) (m : Int) (w : World) :
    CallsIn Fence.wide n Try.prog 47 #[.slice A len cap, .int .i64 m] w fun e w' => e = .returned (.func (.func 55) #[] #[.pointer (some ⟨w.heap.size, 0, none⟩), .pointer (some ⟨w.heap.size + 1, 0, none⟩)]) ∧
      w' = (w.alloc (.cells #[.slice A len cap] 23)).alloc (.cells #[.int .i64 m] 3) := by
  refine callsIn_of_wp Try.func47 rfl trivial ?_ rfl
  simp only [Try.ntmps47, List.size_toArray, List.length_cons, List.length_nil, Nat.reduceAdd, Nat.reduceSub, Array.replicate_succ, Array.replicate_zero, List.push_toArray, List.append_toArray, List.nil_append, List.cons_append]
  gi_wp2
  go_ret
  exact ⟨rfl, rfl⟩

set_option maxRecDepth 100000 in
set_option maxHeartbeats 2000000 in
theorem cuts_it (w : World) (A : Option Addr) (cap : Nat) (es : List Int) (m : Int) (hm : m ≤ 9223372036854775807) (B1 B2 : Nat) (h1 : w.cell? ⟨B1, 0, none⟩ = some (.slice A es.length cap)) (h2 : w.cell? ⟨B2, 0, none⟩ = some (.int .i64 m)) (hes : (Kd.int .i64).C w A es.length es) :
    ItC Try.prog 55 #[.pointer (some ⟨B1, 0, none⟩), .pointer (some ⟨B2, 0, none⟩)] (cutsL es m).length
      (fun k _ args => ∃ c, (cutsL es m)[k]? = some c ∧ args = #[.int .i64 k, .agg #[.int .i64 c.1, .int .i64 c.2]]) (fun _ _ => False) (fun b => (0 < es.length ∧ BlkOf A b) ∨ b = B1 ∨ b = B2) w := by
  intro l J Jx own0 W hW hlw hlW hJ hJx hown hY h0
  have hb1 : B1 < w.heap.size := World.block_lt_of_cell? w _ h1
  have hb2 : B2 < w.heap.size := World.block_lt_of_cell? w _ h2
  have hmax := Kd.C_max hes
  refine (callsIn_wide (n := 0)).1 (callsIn_of_wp Try.func55 rfl trivial ?_ rfl)
  simp only [Try.ntmps55, List.size_toArray, List.length_cons, List.length_nil, Nat.reduceAdd, Nat.reduceSub, Array.replicate_succ, Array.replicate_zero, List.push_toArray, List.append_toArray, List.nil_append, List.cons_append]
  have c1 : W.cell? ⟨B1, 0, none⟩ = some (.slice A es.length cap) := (hW.cell (p := ⟨B1, 0, none⟩) hb1).trans h1
  gi_wp2
  gi_loopw [4, 9] (fun v4 v9 wr => ∃ (i : Nat) (b : Int) (own : Nat → Prop), v4 = .int .i64 b ∧ v9 = .int .i64 i ∧ i ≤ es.length ∧ 0 ≤ b ∧ (cutsL es m).length = i + (cutsF b (es.drop i) m).length ∧ (cutsL es m).drop i = cutsF b (es.drop i) m ∧
      J i own wr ∧ Since l own0 W own (fun _ => False) wr)
    (fun _ v9 _ => es.length - (intOf v9).toNat)
  case atStart => exact ⟨0, 0, own0, rfl, rfl, by omega, by omega, by simp [cutsL], by simp [cutsL], h0, Since.start fun b hb => (hown b hb).1⟩
  case round =>
    obtain ⟨i, b, own, rfl, rfl, hi, hb, hlen, hdr, hj, hsi⟩ := hrel
    have hrd := hsi.reads hW hlw hown (fun _ _ h => h)
    have c2 : wr.cell? ⟨B2, 0, none⟩ = some (.int .i64 m) := (hrd.cell (p := ⟨B2, 0, none⟩) hb2 (fun h => h (.inr (.inr rfl)))).trans h2
    by_cases hlt : i < es.length
    · obtain ⟨ad, rfl, hx⟩ := at_int_chg hes hrd (fun _ _ hq h => h (.inl ⟨by omega, hq⟩)) (i : Int) (by omega) (by omega)
      simp only [Int.toNat_natCast] at hx
      rw [cutsF_drop es b m i hlt] at hlen hdr
      by_cases hstop : rd es i < b ∨ m ≤ rd es i
      · rw [if_pos hstop] at hlen hdr
        simp only [List.length_nil, Nat.add_zero] at hlen
        by_cases hs1 : rd es i < b
        · have d1 : decide (rd es i < b) = true := decide_eq_true hs1
          gi_wp2
          refine bodyPost_ret (results_none rfl _ _ _) rfl ?_
          exact ⟨⟨_, rfl⟩, own, hsi.lt, .inl (by first | exact hj | (rw [hlen]; exact hj))⟩
        · have d1 : decide (rd es i < b) = false := decide_eq_false hs1
          have hs2 : m ≤ rd es i := by omega
          have d2 : decide (m ≤ rd es i) = true := decide_eq_true hs2
          gi_wp2
          refine bodyPost_ret (results_none rfl _ _ _) rfl ?_
          exact ⟨⟨_, rfl⟩, own, hsi.lt, .inl (by first | exact hj | (rw [hlen]; exact hj))⟩
      · rw [if_neg hstop] at hlen hdr
        have hki : (cutsL es m)[i]? = some (b, rd es i + 1) := by
          have := congrArg (fun q => q[0]?) hdr
          simpa [List.getElem?_drop] using this
        simp only [List.length_cons] at hlen
        obtain ⟨fn, tmps, assign, body, hy, hR⟩ := hY i own wr _ (by omega) hj hsi.chg.size hsi.lt ⟨_, hki, rfl⟩ (fun _ h => h.elim) 0
        dsimp only at hy
        have d1 : decide (rd es i < b) = false := decide_eq_false (by omega)
        have d2 : decide (m ≤ rd es i) = false := decide_eq_false (by omega)
        have g1 : b ≤ rd es i := by omega
        have g2 : rd es i < m := by omega
        have hN := Lib.hid hlen
        have hD := Lib.hid hdr
        have hK := Lib.hid hki
        clear hlen hdr hki
        gi_wp2
        refine hR.mono ?_
        rintro e W3 ⟨own', hg3, ho3, hc3, (⟨rfl, hJ3⟩ | ⟨rfl, hJ3⟩)⟩
        · gi_wp2
          go_roundw
          case rel =>
            exact ⟨i + 1, rd es i + 1, own', rfl, by simp, by omega, by omega, by have := hN.out; omega, by
              have := congrArg (List.drop 1) hD.out
              simpa [List.drop_drop, Nat.add_comm] using this, hJ3, hsi.next hg3 ho3 hc3 (fun _ h => h.elim)⟩
          case measure => simp [intOf]; omega
        · gi_wp2
          refine bodyPost_ret (results_none rfl _ _ _) rfl ?_
          exact ⟨⟨_, rfl⟩, own', ho3, .inr ⟨i + 1, by have := hN.out; omega, hJ3⟩⟩
    · obtain rfl : i = es.length := by omega
      simp only [List.drop_length, cutsF, List.length_nil, Nat.add_zero] at hlen
      gi_wp2
      go_end0
      exact ⟨⟨_, rfl⟩, own, hsi.lt, .inl (by first | exact hj | (rw [hlen]; exact hj))⟩

end Go.Proofs.Ytbmklpcheopgoaa.H

namespace Go.Proofs.YtbmklpcheopgoaaFlat
open Go Go.RowKit Go.Proofs.YtbmklpcheopgoaaIt Go.Proofs.YtbmklpcheopgoaaBlks Go.Proofs.YtbmklpcheopgoaaW.PrintWords

/-- Elements that lead nowhere: what they are does not hang on the world. -/
def Flat {α : Type} (d : Kd α) : Prop := ∀ (w w' : World) (base base' : Nat) (ok ok' : Nat → Prop) (x : α) (cs : List Value), d.M w base ok x cs → d.M w' base' ok' x cs
theorem flat_int (k : IntKind) : Flat (Kd.int k) := fun _ _ _ _ _ _ _ _ h => h
theorem flat_bool : Flat Kd.bool := fun _ _ _ _ _ _ _ _ h => h

/-- The row's own block. -/
def Own1 (v : Value) (k : Nat) : Prop := some k = v.ownBlock
section
variable {α : Type} {d : Kd α} {e base : Nat} {ok : Nat → Prop} {W W1 : World} {v : Value} {xs : List α}
theorem R_own1 (hf : Flat d) (h : d.R e W base ok v xs) : d.R e W base (Own1 v) v xs := ⟨fun k hk => hk.symm, h.2.imp_ (fun _ _ hM => hf _ _ _ _ _ _ _ _ hM)⟩
theorem R_all (h : d.R e W base (Own1 v) v xs) : d.R e W base (fun _ => True) v xs := Kd.R_mono h (fun _ _ => trivial)
theorem R_chg {S : Nat → Prop} (h : d.R e W base (Own1 v) v xs) (hc : Chg S W W1) (hS : ∀ k, v.ownBlock = some k → ¬ S k) : d.R e W1 base (Own1 v) v xs :=
  Kd.R_step h (fun k hk hlt => hc.block k hlt (hS k hk.symm))
end

theorem run_store_op {P : Program} {o : Oper} {ρ : Operand → Value} {x y : Operand} {t : TypeId} {p u : Value} {W w1 : World} (ho : o.op = .store t x y) (hx : ρ x = p) (hy : ρ y = u) (hr : (Instr.storeAt t p u).run P W = .ok () w1) : (execOp ρ o).run P W = .ok .skip w1 := by
  unfold execOp
  simp only [ho, hx, hy, Sem.run_bind, hr, Result.andThen_ok, Sem.run_pure]

/-- x[i] = u, in a row of one's own. -/
theorem row_store {P : Program} {α : Type} {d : Kd α} {e base g n cap : Nat} {W : World} {xs : List α} (hf : Flat d) (h : d.R e W base (Own1 (.slice (some ⟨g, 0, none⟩) n cap)) (.slice (some ⟨g, 0, none⟩) n cap) xs) (i : Nat) (hi : i < n) (t : TypeId) (u : Value) {x' : α}
    {seg : List Value} (hu : u.cells.toList = seg) (hsz : seg.length = d.sz) (ht : (P.info? t).map (·.size) = some d.sz) (h1 : ∀ q ∈ seg, q.oneCell' = true) (hM : ∀ ok, d.M W base ok x' seg) :
    ∃ w1, (Instr.storeAt t (.pointer (some ⟨g, i * d.sz, none⟩)) u).run P W = .ok () w1 ∧ d.R e w1 base (Own1 (.slice (some ⟨g, 0, none⟩) n cap)) (.slice (some ⟨g, 0, none⟩) n cap) (xs.set i x') ∧ Chg (fun k => k = g) W w1 := by
  have hn := (Kd.R_reads' h).1
  have hnc := (Kd.R_reads' h).2.1
  obtain ⟨c, hcl, _, hcc, _⟩ := Kd.R_elem h x' (i : Int) (by omega) (by omega)
  simp only [Int.toNat_natCast] at hcc
  have hseg := Kd.R_seg (okp := fun _ => False) h (i : Int) (by omega) (by omega) (c := c) (seg := seg) (j := 0) hcl (by simpa using hcc) (by omega) (x' := x') (by
    rw [hsz]
    simp only [List.take_zero, List.nil_append, Nat.zero_add]
    rw [List.drop_of_length_le (by omega), List.append_nil]
    exact hM _) (fun _ hk => hk.elim)
  simp only [Int.toNat_natCast, Nat.add_zero] at hseg
  obtain ⟨hrow, hg⟩ := hseg
  refine ⟨W.setCells g (i * d.sz) seg, ?_, hrow, Chg.mono (Chg.of_grownBy hg) (fun k _ hk => by injection hk with hk; exact hk.symm)⟩
  obtain ⟨_, inner, hown, hr⟩ := h
  rcases hown.2 with ⟨hv, _⟩ | ⟨g', cap', cur, hv, hb, hh, hnc', hcm, hcs, _⟩
  · cases hv
  injection hv with ha hb2 hc2
  injection ha with ha
  injection ha with hg'
  subst hg'; subst hc2
  refine run_store_run t u seg hh hu (by rw [ht, hsz]) ?_ h1
  have h2 : i * d.sz + d.sz ≤ n * d.sz := by rw [← Nat.succ_mul]; exact Nat.mul_le_mul_right _ hi
  have h3 : n * d.sz ≤ cap * d.sz := Nat.mul_le_mul_right _ (by omega)
  omega

/-- Elements that lead nowhere may be taken over as one's own. -/
def FlatK {α : Type} (d : Kd α) : Prop := ∀ (w w' : World) (base : Nat) (ok : Nat → Prop) (x : α) (cs : List Value), d.K w x cs → d.M w' base ok x cs
theorem flatK_int (k : IntKind) : FlatK (Kd.int k) := fun _ _ _ _ _ _ h => h
theorem flatK_bool : FlatK Kd.bool := fun _ _ _ _ _ _ h => h

section
variable {P : Program} {α : Type}
/-- append(nil, ys...), ys not empty: a row of one's own. -/
theorem run_clone (d : Kd α) (hK : FlatK d) {W : World} {t ty e : TypeId} {z : Value} {bytes : Nat} (ht : P.underlying t = some (.slice e)) (hinfo : (P.info? e).map (fun i => (i.zero, i.size, i.bytes)) = some (some z, d.sz, bytes)) (hz : z.cells.size = d.sz) (hs0 : 0 < d.sz) (hb0 : 0 < bytes)
    {B : Option Addr} {m c' : Nat} {ys : List α} (hB : d.C W B m ys) (hl : m * bytes ≤ 140737488355328) (hm : 0 < m) :
    ∃ g c1 w1, (Builtin.append_ #[t, t] ty #[.slice none 0 0, .slice B m c']).run P W = .ok (.slice (some ⟨g, 0, none⟩) m c1) w1 ∧ m ≤ c1 ∧ W.heap.size ≤ g ∧ d.R e w1 W.heap.size (Own1 (.slice (some ⟨g, 0, none⟩) m c1)) (.slice (some ⟨g, 0, none⟩) m c1) ys ∧ Below W.heap.size W w1 := by
  obtain ⟨i0, hi, hzz⟩ := Option.map_eq_some_iff.1 hinfo
  simp only [Prod.mk.injEq] at hzz
  obtain ⟨hz0, hz1, hz2⟩ := hzz
  have hlen : m ≤ 140737488355328 := Nat.le_trans (Nat.le_mul_of_pos_right _ hb0) hl
  have hBm := hB.1
  obtain ⟨ad, rfl, _⟩ := hB.2.2 hm
  obtain ⟨news, hnr, hnews⟩ := ReadsRow.inner_ hB
  have hone := Go.Proofs.YtbmklpcheopgoaaOps.one_of_reads d hs0 hnr
  obtain ⟨v', w', hrun, r1, r2, _⟩ := run_append_own (P := P) W W.heap.size t ty e i0 z d.sz bytes ht hi hz0 hz1 hz2 hz hs0 (.slice none 0 0) 0 [] (World.ownsRow_nil W _ e d.sz) ad m c' news (by rw [hnr.1, hB.1]) hnews hone (by simp only [maxLen]; omega) (by simpa using hl) (Nat.le_refl _)
  have hb : Below W.heap.size W w' := ⟨r2.os, r2.tape, r2.output, r2.size, fun k hk => r2.block k hk (by simp [Value.ownBlock])⟩
  have hreps : ∀ ok, Reps (d.M w' W.heap.size ok) d.sz ys news := fun ok => hnr.imp_ fun _ _ h => hK _ _ _ _ _ _ h
  rw [Nat.zero_add, List.nil_append] at r1
  have r1' := r1
  rcases r1'.2 with ⟨h1, h2⟩ | ⟨g, cap, cur, h1, hg, hh, hnc, _⟩
  · omega
  · subst h1
    exact ⟨g, cap, w', hrun, hnc, hg, ⟨fun k hk => hk.symm, news, by rw [hBm]; exact r1, hreps _⟩, hb⟩

/-- append(v, x) in a world where x's cells lie at ad: a row of elements of whatever kind. -/
theorem run_append1 (d : Kd α) {W : World} (base : Nat) {t ty e : TypeId} {z : Value} {bytes : Nat} (ht : P.underlying t = some (.slice e)) (hinfo : (P.info? e).map (fun i => (i.zero, i.size, i.bytes)) = some (some z, d.sz, bytes)) (hz : z.cells.size = d.sz) (hs0 : 0 < d.sz) (hb0 : 0 < bytes)
    (v : Value) (xs : List α) (p : α) (cs : List Value) (ok okp : Nat → Prop) (ad : Addr) (c' : Nat) (hx : ∀ j u, cs[j]? = some u → W.cell? (ad.add j) = some u) (hp : d.M W base okp p cs) (hokp : ∀ k, okp k → ok k ∧ some k ≠ v.ownBlock) (hfresh : ∀ k, W.heap.size ≤ k → ok k)
    (HO : d.R e W base ok v xs) (hbase : base ≤ W.heap.size) (hl : (xs.length + 1) * bytes ≤ 140737488355328) :
    ∃ v1 w1, (Builtin.append_ #[t, t] ty #[v, .slice (some ad) 1 c']).run P W = .ok v1 w1 ∧ d.R e w1 base ok v1 (xs ++ [p]) ∧ W.grownBy w1 v.ownBlock ∧ (v1.ownBlock = v.ownBlock ∨ ∃ b, v1.ownBlock = some b ∧ W.heap.size ≤ b) := by
  obtain ⟨i0, hi, hzz⟩ := Option.map_eq_some_iff.1 hinfo
  simp only [Prod.mk.injEq] at hzz
  obtain ⟨hz0, hz1, hz2⟩ := hzz
  have hlen : xs.length + 1 ≤ 140737488355328 := Nat.le_trans (Nat.le_mul_of_pos_right _ hb0) hl
  obtain ⟨h0, inner, hown, hr⟩ := HO
  have hcl := d.K_len (d.K_of_M hp)
  obtain ⟨v', w', hrun, r1, r2, _, r3⟩ := run_append_own_at (P := P) W base t ty e i0 z d.sz bytes ht hi hz0 hz1 hz2 hz hs0 v xs.length inner hown ad 1 c' cs (by rw [hcl]; omega) hx (d.K_one (d.K_of_M hp)) (by simp only [maxLen]; omega) hl hbase
  have hat : v'.ownBlock = v.ownBlock ∨ ∃ b, v'.ownBlock = some b ∧ W.heap.size ≤ b := by
    rcases r3 with r3 | r3
    · exact .inl r3
    · exact .inr ⟨_, r3, Nat.le_refl _⟩
  exact ⟨v', w', hrun, Kd.R_appended h0 hr hp hokp hfresh r1 r2 hat, r2, hat⟩
/-- .. and no two of its elements lead to one block. -/
theorem run_appendS (d : Kd α) {W : World} (base : Nat) {t ty e : TypeId} {z : Value} {bytes : Nat} (ht : P.underlying t = some (.slice e)) (hinfo : (P.info? e).map (fun i => (i.zero, i.size, i.bytes)) = some (some z, d.sz, bytes)) (hz : z.cells.size = d.sz) (hs0 : 0 < d.sz) (hb0 : 0 < bytes)
    (v : Value) (xs : List α) (p : α) (cs : List Value) (ok okp : Nat → Prop) (ad : Addr) (c' : Nat) (hx : ∀ j u, cs[j]? = some u → W.cell? (ad.add j) = some u) (hp : d.M W base okp p cs) (hokp : ∀ k, okp k → ok k ∧ some k ≠ v.ownBlock) (hfresh : ∀ k, W.heap.size ≤ k → ok k)
    (HO : Kd.S d e W base (fun k => ok k ∧ ¬ okp k) v xs) (hbase : base ≤ W.heap.size) (hl : (xs.length + 1) * bytes ≤ 140737488355328) :
    ∃ v1 w1, (Builtin.append_ #[t, t] ty #[v, .slice (some ad) 1 c']).run P W = .ok v1 w1 ∧ Kd.S d e w1 base ok v1 (xs ++ [p]) ∧ W.grownBy w1 v.ownBlock ∧ (v1.ownBlock = v.ownBlock ∨ ∃ b, v1.ownBlock = some b ∧ W.heap.size ≤ b) := by
  obtain ⟨f, hf, hR⟩ := Kd.S_tag HO xs.length okp (fun _ hk h2 => h2.2 hk)
  obtain ⟨v1, w1, h1, h2, h3, h4⟩ := run_append1 (P := P) (Kd.tag f d) (ty := ty) base ht hinfo hz hs0 hb0 v xs.zipIdx (p, xs.length) cs ok okp ad c' hx (d.M_mono (fun k hk => ⟨hk, hf k hk⟩) hp) hokp hfresh (Kd.R_mono hR (fun _ hk => hk.1)) hbase (by rw [List.length_zipIdx]; exact hl)
  rw [← Kd.zip_snoc] at h2
  exact ⟨v1, w1, h1, ⟨f, h2⟩, h3, h4⟩
section
variable {d : Kd α} {e base : Nat} {ok : Nat → Prop} {w w1 : World} {v : Value} {xs : List α}
theorem S_empty (d : Kd α) {g : Nat} (h : w.heap[g]? = some (.cells #[] e (0, 0))) (hb : base ≤ g) (hok : ok g) : Kd.S d e w base ok (.slice (some ⟨g, 0, none⟩) 0 0) [] :=
  ⟨fun _ => 0, fun k hk => by simp [Value.ownBlock] at hk; subst hk; exact hok, [], ⟨by simp, .inr ⟨g, 0, #[], rfl, hb, h, by simp, by simp [maxLen], by simp, by simp⟩⟩, Reps.none _ _⟩
theorem S_chg {T : Nat → Prop} (h : Kd.S d e w base ok v xs) (hc : Chg T w w1) (hT : ∀ k, ok k → ¬ T k) : Kd.S d e w1 base ok v xs := Kd.S_step h (fun k ho hlt => hc.block k hlt (hT k ho))
theorem S_put {l : Nat} {o o' : Obj} (h : Kd.S d e w base ok v xs) (ho : w.heap[l]? = some o) (hn : o.isCells = false) : Kd.S d e (w.putObj l o') base ok v xs :=
  Kd.S_mono (Kd.S_step (Kd.S_bound h) (fun k hk hlt => by
    obtain ⟨_, _, _, q, _, cells, hc⟩ := hk
    refine World.putObj_heap_other (fun e => ?_)
    subst e
    rw [hc] at ho
    cases ho
    cases hn)) (fun _ hk => hk.1)
theorem R_put {l : Nat} {o o' : Obj} (h : d.R e w base ok v xs) (ho : w.heap[l]? = some o) (hn : o.isCells = false) : d.R e (w.putObj l o') base ok v xs :=
  Kd.R_mono (Kd.R_step (Kd.R_bound h) (fun k hk hlt => by
    obtain ⟨_, _, _, q, _, cells, hc⟩ := hk
    refine World.putObj_heap_other (fun e => ?_)
    subst e
    rw [hc] at ho
    cases ho
    cases hn)) (fun _ hk => hk.1)
end
end
end Go.Proofs.YtbmklpcheopgoaaFlat

namespace Go.Proofs.YtbmklpcheopgoaaIt
open Go Go.RowKit

theorem leaves_collected {F : Fence} {n : Nat} {P : Program} {fn : Func} {tmps : Array Value} {R : Ending → World → Prop} {D : Nat} {V : World} (hd : V.heap[D]? = some (.deferred (some [])))
    (h : ∀ V', Chg (fun b => b = D) V V' → ∃ v, (results fn tmps).run P V' = .ok v V' ∧ R (.returned v) V') : LeavesInM F n P fn tmps R [{ target := .collected D, args := #[] }] .returning V := by
  obtain ⟨v, hv, hr⟩ := h _ (Chg.putSelf V D _)
  refine ⟨by simp, .inl ⟨D, _, rfl, run_takeDeferred hd, ?_⟩⟩
  exact ⟨v, hv, hr⟩

theorem op_yield {F : Fence} {n : Nat} {P : Program} {o : Oper} {a : Act} {w : World} {K : Act → World → Prop} {Q : Exit → Act → World → Prop} {x : Operand} {args : Array Operand} {ts : Array TypeId} {l : Nat} {R : Ending → World → Prop}
    (ho : o.op = .call { callee := .value x, args := args, argTypes := ts }) (hx : a.eval x = .func (.yield l) #[] #[])
    {vs : Array Value} (hvs : args.map a.eval = vs) (hY : YieldAt F (n - 1) P l vs w R) (hF : F.depth = none) (hfn : ∀ f, F.fn f) (h : ∀ e w', R e w' → ∃ v, e = .returned v ∧ K (a.put o.dst v) w') : Oper.wpIn F n P o a w K Q := by
  subst hvs
  obtain ⟨fn, tmps, assign, body, hy, hR⟩ := hY
  have hargs : (args.map a.eval) = (args.map a.eval) := rfl
  unfold Oper.wpIn
  refine ⟨fun f _ => hfn f, ?_⟩
  rw [Oper.semAt_plain F _ _ (by rw [ho]; intro c hc'; cases hc')]
  simp only [execOp, ho, resolve, hx]
  simp [go_sem, invoke, hy, Result.andThen, Sem.run_bind]
  refine ⟨fun hh => (by rw [hF] at hh; cases hh), RoundIn.mono hR fun e w' hr => ?_⟩
  obtain ⟨v, rfl, hk⟩ := h _ _ hr
  exact hk

theorem run_app {P : Program} {o : Oper} {ρ : Operand → Value} {s x : Operand} {t : TypeId} {v y v1 : Value} {W w1 : World} (ho : o.op = .call { callee := .builtin .append, args := #[s, x], argTypes := #[t, t] }) (hs : ρ s = v) (hx : ρ x = y)
    (hr : (Builtin.append_ #[t, t] o.type #[v, y]).run P W = .ok v1 w1) : (execOp ρ o).run P W = .ok (.value v1) w1 := by
  simp only [execOp, ho, resolve, invoke, builtin, Sem.run_bind, Sem.run_pure, Result.andThen_ok, List.map_toArray, List.map_cons, List.map_nil, hs, hx, hr]
end Go.Proofs.YtbmklpcheopgoaaIt

namespace Go.Proofs.Ytbmklpcheopgoaa.H
open Go.RowKit Go.Shelf Go.Proofs.YtbmklpcheopgoaaW.PrintWords Go.Proofs.YtbmklpcheopgoaaW.PrintLast Go.Proofs.YtbmklpcheopgoaaW.PrintMore Go.Proofs.YtbmklpcheopgoaaIt Go.Proofs.YtbmklpcheopgoaaOps
set_option linter.unnecessarySimpa false
set_option linter.unusedVariables false
set_option linter.unusedSimpArgs false
attribute [local go_sem] Oper.semAt_some wide_depth wide_fn World.cell?_alloc_some

/-- A contour's points. -/
def contourOf (pts : List S33) (c : Int × Int) : List S33 := (pts.drop c.1.toNat).take (c.2.toNat - c.1.toNat)

theorem contours_calls (n : Nat) (A0 A1 : Option Addr) (l0 c0 l1 c1 : Nat) (w : World) :
    CallsIn Fence.wide n Try.prog 41 #[.agg #[.slice A0 l0 c0, .slice A1 l1 c1]] w fun e w' => e = .returned (.func (.func 54) #[] #[.pointer (some ⟨w.heap.size, 0, none⟩)]) ∧
      w' = w.alloc (.cells #[.slice A0 l0 c0, .slice A1 l1 c1] 25) := by
  refine callsIn_of_wp Try.func41 rfl trivial ?_ rfl
  simp only [Try.ntmps41, List.size_toArray, List.length_cons, List.length_nil, Nat.reduceAdd, Nat.reduceSub, Array.replicate_succ, Array.replicate_zero, List.push_toArray, List.append_toArray, List.nil_append, List.cons_append]
  gi_wp2
  go_ret
  exact ⟨rfl, rfl⟩

/-- A cut lies within the points. -/
theorem cutsF_mem (es : List Int) (n : Int) : ∀ (b : Int) (k : Nat) (c : Int × Int), (cutsF b es n)[k]? = some c → b ≤ c.1 ∧ c.1 < c.2 ∧ c.2 ≤ n := by
  induction es with
  | nil => intro b k c h; simp [cutsF] at h
  | cons e es ih =>
    intro b k c h
    unfold cutsF at h
    split at h
    · simp at h
    · rename_i hne
      cases k with
      | zero => simp at h; subst h; simp; omega
      | succ k =>
        have := ih (e + 1) k c (by simpa using h)
        omega
theorem C_chg {α : Type} {d : Kd α} (hflat : ∀ (w w' : World) x cs, d.K w x cs → d.K w' x cs) (hs : 0 < d.sz) {S : Nat → Prop} {w W : World} {A : Option Addr} {n : Nat} {xs : List α} (h : d.C w A n xs) (hc : Chg S w W) (hA : ∀ b, b < w.heap.size → BlkOf A b → ¬ S b) : d.C W A n xs := by
  refine ⟨h.1, h.2.1, fun hn => ?_⟩
  obtain ⟨ad, e, hx⟩ := h.2.2 hn
  refine ⟨ad, e, fun i x hi => ?_⟩
  obtain ⟨cs, h1, h2, h3⟩ := hx i x hi
  refine ⟨cs, h1, hflat _ _ _ _ h2, fun j u hu => ?_⟩
  have hx := h3 j u hu
  have hb := World.block_lt_of_cell? w _ hx
  exact (hc.cell hb (hA _ hb ⟨ad, e, add_block _ _⟩)).trans hx
theorem flat_point (w w' : World) (x : S33) (cs : List Value) (h : k33.K w x cs) : k33.K w' x cs := by rw [k33_open h]; exact k33_mk _ _

def contTmps (l B Y k X : Nat) (A0 A1 : Option Addr) (n0 c0 n1 c1 : Nat) (c : Int × Int) (f : Nat → Value) : Array Value :=
  #[.func (.yield l) #[] #[], .pointer (some ⟨B, 0, none⟩), .pointer (some ⟨Y, 0, none⟩), .int .i64 k, .pointer (some ⟨X, 0, none⟩), .pointer (some ⟨B, 1, none⟩), .slice A1 n1 c1, .pointer (some ⟨B, 0, none⟩), .slice A0 n0 c0, .int .i64 n0,
    .func (.func 55) #[] #[.pointer (some ⟨Y + 1, 0, none⟩), .pointer (some ⟨Y + 1 + 1, 0, none⟩)], .int .i64 k, .agg #[.int .i64 c.1, .int .i64 c.2], f 13, f 14, f 15, f 16, f 17, f 18, f 19, f 20, f 21, f 22, f 23, f 24]

set_option maxRecDepth 100000 in
set_option maxHeartbeats 2000000 in
theorem contours_it (w : World) (B : Nat) (A0 A1 : Option Addr) (c0 c1 : Nat) (pts : List S33) (es : List Int) (hb : w.heap[B]? = some (.cells #[.slice A0 pts.length c0, .slice A1 es.length c1] 25 (0, 0)))
    (hp : Kd.C k33 w A0 pts.length pts) (hes : (Kd.int .i64).C w A1 es.length es) (hc0 : pts.length ≤ c0) (hlim : pts.length ≤ 1000000) :
    ItC Try.prog 54 #[.pointer (some ⟨B, 0, none⟩)] (cutsL es pts.length).length
      (fun k W args => ∃ c A cap, (cutsL es pts.length)[k]? = some c ∧ args = #[.int .i64 k, .slice A (contourOf pts c).length cap] ∧ (contourOf pts c).length ≤ cap ∧ Kd.C k33 W A (contourOf pts c).length (contourOf pts c) ∧ Kd.R k33 33 W w.heap.size (Go.Proofs.YtbmklpcheopgoaaFlat.Own1 (.slice A (contourOf pts c).length cap)) (.slice A (contourOf pts c).length cap) (contourOf pts c))
      (fun args b => ∃ v ad n c, args = #[v, .slice (some ad) n c] ∧ b = ad.block)
      (fun b => (0 < pts.length ∧ BlkOf A0 b) ∨ (0 < es.length ∧ BlkOf A1 b) ∨ b = B) w := by
  intro l J Jx own0 W hW hlw hlW hJ hJx hown hY h0
  have hB : B < w.heap.size := (Array.getElem?_eq_some_iff.1 hb).1
  have hu := Try.underlying25
  refine (callsIn_wide (n := 0)).1 (callsIn_of_wp_marks Try.func54 rfl trivial ?_ rfl)
  simp only [Try.ntmps54, List.size_toArray, List.length_cons, List.length_nil, Nat.reduceAdd, Nat.reduceSub, Array.replicate_succ, Array.replicate_zero, List.push_toArray, List.append_toArray, List.nil_append, List.cons_append]
  have hbW : W.heap[B]? = some (.cells #[.slice A0 pts.length c0, .slice A1 es.length c1] 25 (0, 0)) := (hW.block B hB).trans hb
  have e1 := blk_cell hbW 0
  have e2 := blk_cell hbW 1
  simp at e1 e2
  gi_wp2
  refine CallsIn.mono (cuts_calls 0 _ _ _ _ _) ?_
  rintro e w' ⟨rfl, rfl⟩
  gi_wp2
  generalize hV : World.alloc (World.alloc (World.alloc W _) _) _ = V
  have hVs : V.heap.size = W.heap.size + 1 + 1 + 1 := by rw [← hV]; simp
  have hbV : Below W.heap.size W V := by rw [← hV]; exact (((Below.refl _ W).alloc (Nat.le_refl _) _).alloc (by simp) _).alloc (by simp; omega) _
  have hY1 : V.heap[W.heap.size]? = some (.cells #[.func (.yield l) #[] #[]] 98 (0, 0)) := by rw [← hV]; exact blk_alloc (blk_alloc (blk_new _ _) _) _
  have hq1 : V.heap[W.heap.size + 1]? = some (.cells #[.slice A1 es.length c1] 23 (0, 0)) := by
    rw [← hV]; refine blk_alloc ?_ _; have := blk_new (W.alloc (.cells #[.func (.yield l) #[] #[]] 98)) (.cells #[.slice A1 es.length c1] 23); rwa [World.size_alloc] at this
  have hq2 : V.heap[W.heap.size + 1 + 1]? = some (.cells #[.int .i64 pts.length] 3 (0, 0)) := by
    rw [← hV]; have := blk_new ((W.alloc (.cells #[.func (.yield l) #[] #[]] 98)).alloc (.cells #[.slice A1 es.length c1] 23)) (.cells #[.int .i64 pts.length] 3); rwa [World.size_alloc, World.size_alloc] at this
  have hesW : (Kd.int .i64).C V A1 es.length es := Kd.C_below (Kd.C_below hes hW) hbV
  have hpV : Kd.C k33 V A0 pts.length pts := Kd.C_below (Kd.C_below hp hW) hbV
  have hit := cuts_it V A1 c1 es pts.length (by have := Kd.C_max hp; omega) (W.heap.size + 1) (W.heap.size + 1 + 1) (blk_cell hq1 0) (blk_cell hq2 0) hesW
  clear e1 e2
  have hlV : l < V.heap.size := by omega
  refine range_outer hit (by rfl) (fun args w => by simp [go_sem])
    (fun k own V' => (own l ∧ ¬ own W.heap.size ∧ V'.heap[W.heap.size]? = some (.cells #[.func (.yield l) #[] #[]] 98 (0, 0))) ∧ ∃ u, J k u V' ∧ (∀ b, u b → own b) ∧ Since l own0 W u (fun b => W.heap.size ≤ b) V')
    (fun c k own V' => c = .ret ∧ ∃ u, Jx k u V' ∧ (∀ b, u b → own b ∧ b < V'.heap.size))
    (fun b => own0 b ∨ b = l) ?_ ?_ ?_ ?_ ?_
    (fun k own a' V' => ∃ (c : Int × Int) (X : Nat), (cutsL es pts.length)[k]? = some c ∧ a' = ⟨contTmps l B W.heap.size k X A0 A1 pts.length c0 es.length c1 c (fun _ => undef), []⟩ ∧ V'.heap[X]? = some (.cells #[.int .i64 c.1, .int .i64 c.2] 64 (0, 0))) ?_ ?_ ?_ ?_ ?_
  · rintro k own V1 V2 ⟨⟨hl, hny, hy⟩, u, hj, hu, hs⟩ hc
    refine ⟨⟨hl, hny, hc.heap hy (fun h => by omega)⟩, u, hJ _ _ _ _ hj (hc.mono fun b _ hb => ⟨by omega, fun h => hb.2 (hu b h)⟩), hu, hs.own (hc.mono fun b _ hb => by omega)⟩
  · rintro c k own V1 V2 ⟨rfl, u, hj, hu⟩ hc
    exact ⟨rfl, u, hJx _ _ _ _ hj (hc.mono fun b _ hb => ⟨by omega, fun h => hb.2 (hu b h).1⟩), fun b h => ⟨(hu b h).1, Nat.lt_of_lt_of_le (hu b h).2 hc.size⟩⟩
  · rintro k W args ⟨c, _, rfl⟩
    rfl
  · rintro b (h | rfl)
    · have := hown b h
      refine ⟨by omega, fun hr => ?_⟩
      rcases hr with hr | hr | hr
      · exact this.2 (.inr (.inl hr))
      · omega
      · omega
    · refine ⟨by omega, fun hr => ?_⟩
      rcases hr with ⟨h0, ad, rfl, hr⟩ | hr | hr
      · obtain ⟨ad', e, hx⟩ := Kd.at_int hes 0 (by omega) (by omega)
        cases e
        have := World.block_lt_of_cell? w _ hx
        rw [add_block] at this
        omega
      · omega
      · omega
  · refine ⟨⟨.inr rfl, fun h => by
      rcases h with h | h
      · have := (hown _ h).1; omega
      · omega, hY1⟩, own0, hJ _ _ _ _ h0 ((Chg.of_below hbV).mono fun b _ hb => ⟨hb, fun h => by have := (hown b h).1; omega⟩), fun b h => .inl h, (Since.start fun b h => (hown b h).1).own (Chg.of_below hbV)⟩
  · rintro lc k own a' V1 o o' hlc ⟨c, X, hk, ha, hX⟩ ho hcells
    refine ⟨c, X, hk, ha, ?_⟩
    rw [World.putObj_heap_other]
    · exact hX
    · rintro rfl
      rw [hX] at ho
      cases ho
      simp [Obj.isCells] at hcells
  · rintro lc n k own args V1 hlc ⟨⟨hl, hny, hy⟩, u, hj, hu, hs⟩ how hlt hno hk ⟨c, hkc, rfl⟩ _
    gi_wp2
    refine ⟨own, GrowG.refl _ _ _, fun b hb => by have := how b hb; simp; omega, (Chg.refl _ _).alloc _, ⟨⟨hl, hny, blk_alloc hy _⟩, u, hJ _ _ _ _ hj ((Chg.refl _ _).alloc _), hu, hs.own ((Chg.refl _ _).alloc _)⟩, c, V1.heap.size, hkc, rfl, blk_new _ _⟩
  · rintro lc n k own a' V1 hlc ⟨⟨hl, hny, hy⟩, u, hj, hu, hs⟩ how ⟨r, hr⟩ hno hk ⟨c, X, hkc, rfl, hX⟩
    have hrd := hs.reads hW hlw hown (fun b hb h => by have := hW.size; omega)
    have hbV1 : V1.heap[B]? = some (.cells #[.slice A0 pts.length c0, .slice A1 es.length c1] 25 (0, 0)) := hrd.heap hb (fun h => h (.inr (.inr rfl)))
    have hpos : 0 < pts.length := by have := cutsF_mem es pts.length 0 k c hkc; omega
    have hpV1 : Kd.C k33 V1 A0 pts.length pts := C_chg flat_point (by decide) hp hrd (fun b _ hb h => h (.inl ⟨hpos, hb⟩))
    obtain ⟨m1, m2, m3⟩ := cutsF_mem es pts.length 0 k c hkc
    obtain ⟨cs, ce⟩ := c
    simp only at m1 m2 m3 hX
    obtain ⟨s, rfl⟩ : ∃ s : Nat, cs = s := ⟨cs.toNat, by omega⟩
    obtain ⟨e, rfl⟩ : ∃ e : Nat, ce = e := ⟨ce.toNat, by omega⟩
    obtain ⟨ad, rfl⟩ : ∃ ad, A0 = some ad := by obtain ⟨ad, h, _⟩ := hpV1.2.2 (by omega); exact ⟨ad, h⟩
    have hA := Kd.C_drop (c := c0) hpV1 (show s ≤ pts.length by omega) hc0
    rw [if_neg (by omega)] at hA
    have hlen0 : (pts.drop s).length = pts.length - s := List.length_drop
    have hB := Kd.C_take hA (show e - s ≤ (pts.drop s).length by omega)
    have hlen : ((pts.drop s).take (e - s)).length = e - s := by rw [List.length_take]; omega
    rw [hlen] at hB
    have hcont : contourOf pts ((s : Int), (e : Int)) = (pts.drop s).take (e - s) := by simp [contourOf]
    obtain ⟨g, cN, w1, hrun, hcN, hg, hRN, hbN⟩ := Go.Proofs.YtbmklpcheopgoaaFlat.run_clone (P := Try.prog) k33 (fun w w' base ok x cs h => by rw [k33_open h]; exact k33_mkM _ _ _ _) (W := V1.drew) (t := 22) (ty := 22) (c' := c0 - s) Try.underlying22 info33 rfl (by decide) (by omega) (Kd.C_drew hB) (by omega) (by omega)
    have hCN : Kd.C k33 w1 (some ⟨g, 0, none⟩) (e - s) ((pts.drop s).take (e - s)) := by have := (Kd.R_reads' hRN).2.2; rwa [hlen] at this
    have hg' : V1.heap.size ≤ g := hg
    have hNb : Chg (fun _ => False) V1 w1 := by
      have := Chg.of_fresh (S := fun _ => False) (a := V1.drew) hbN
      exact ⟨this.os, this.tape, this.output, this.size, this.block⟩
    have hJ1 : J k u w1 := hJ _ _ _ _ hj (hNb.mono fun _ _ h => h.elim)
    have hs1 : Since l own0 W u (fun b => W.heap.size ≤ b) w1 := hs.own (hNb.mono fun _ _ h => h.elim)
    have hYd := hY k u w1 #[.int .i64 k, .slice (some ⟨g, 0, none⟩) (e - s) cN] hk hJ1 hs1.chg.size hs1.lt ⟨((s : Int), (e : Int)), some ⟨g, 0, none⟩, cN, hkc, by rw [hcont, hlen], by rw [hcont, hlen]; exact hcN, by rw [hcont, hlen]; exact hCN, by rw [hcont, hlen]; exact Kd.R_lower hRN (by have := hs.chg.size; have := hW.size; show w.heap.size ≤ V1.heap.size; omega)⟩ (by
      rintro b ⟨v, a0, n0, c0', he, rfl⟩
      simp at he
      obtain ⟨_, rfl, _⟩ := he
      have := hs.chg.size
      exact ⟨by simpa using Nat.le_trans this hg', fun h => by have h2 := hs.lt _ h; simp at h2; omega⟩)
    have hyc0 : V1.drew.cell? ⟨W.heap.size, 0, none⟩ = some (.func (.yield l) #[] #[]) := blk_cell hy 0
    have hyc1 : w1.cell? ⟨W.heap.size, 0, none⟩ = some (.func (.yield l) #[] #[]) := blk_cell (hNb.heap hy (fun h => h)) 0
    have hbc : V1.drew.cell? ⟨B, 0, none⟩ = some (.slice (some ad) pts.length c0) := blk_cell hbV1 0
    have hx0 : V1.drew.cell? ⟨X, 0, none⟩ = some (.int .i64 s) := blk_cell hX 0
    have hx1 : V1.drew.cell? ⟨X, 1, none⟩ = some (.int .i64 e) := blk_cell hX 1
    have hus := Try.underlying22
    have hse : s ≤ e := by omega
    have hel : e ≤ c0 := by omega
    have hsc : ¬ (c0 = s) := by omega
    have hsc2 : ¬ (c0 - s = 0) := by omega
    obtain ⟨Post, hPost⟩ : ∃ Post : Bool → World → Prop, Post = fun r W' => ∃ own', GrowG (fun b => b = g) u own' w1 ∧ (∀ b, own' b → b < W'.heap.size) ∧ Chg (fun b => u b ∨ b = l ∨ b = g) w1 W' ∧ ((r = true ∧ J (k + 1) own' W') ∨ (r = false ∧ Jx (k + 1) own' W')) := ⟨_, rfl⟩
    have HR := Lib.hid hrun
    clear hrun
    gi_wp2
    unfold contTmps
    refine Go.Proofs.YtbmklpcheopgoaaReg.regIn_inv (by rfl) [0, 1, 2, 3, 4, 5, 6, 7, 8, 9, 10, 11] (by kernel_rfl) (by kernel_rfl)
      (fun lst a W' => ∃ (b0 b1 b2 b3 b4 b5 b6 b7 b8 b9 b10 b11 r : Bool), lst = #[b0, b1, b2, b3, b4, b5, b6, b7, b8, b9, b10, b11] ∧ a = ⟨#[.func (.yield l) #[] #[], .pointer (some ⟨B, 0, none⟩), .pointer (some ⟨W.heap.size, 0, none⟩), .int .i64 k, .pointer (some ⟨X, 0, none⟩), .pointer (some ⟨B, 1, none⟩), .slice A1 es.length c1, .pointer (some ⟨B, 0, none⟩), .slice (some ad) pts.length c0, .int .i64 pts.length, .func (.func 55) #[] #[.pointer (some ⟨W.heap.size + 1, 0, none⟩), .pointer (some ⟨W.heap.size + 1 + 1, 0, none⟩)], .int .i64 k, .agg #[.int .i64 s, .int .i64 e], if b0 = true then .func (.yield l) #[] #[] else undef, if b1 = true then .int .i64 k else undef, if b2 = true then .pointer (some ⟨B, 0, none⟩) else undef, if b3 = true then .slice (some ad) pts.length c0 else undef, if b4 = true then .pointer (some ⟨X, 0, none⟩) else undef, if b5 = true then .int .i64 s else undef, if b6 = true then .pointer (some ⟨X, 1, none⟩) else undef, if b7 = true then .int .i64 e else undef, if b8 = true then .slice (some (ad.add (s * 3))) (e - s) (c0 - s) else undef, if b9 = true then .slice (some ⟨g, 0, none⟩) (e - s) cN else undef, if b10 = true then .bool r else undef, if b11 = true then .bool (!r) else undef], []⟩ ∧ (b9 = true → b3 = true ∧ b5 = true ∧ b7 = true ∧ b8 = true) ∧ (b8 = true → b3 = true ∧ b5 = true ∧ b7 = true) ∧ (b10 = true → b0 = true ∧ b1 = true ∧ b9 = true) ∧
        (b9 = false → W' = V1.drew) ∧ (b9 = true → b10 = false → W' = w1) ∧ (b10 = true → Post r W') ∧ (b11 = true → b10 = true)) ?_ ?_ ?_ ?_
    · rintro lst a W' ⟨b0, b1, b2, b3, b4, b5, b6, b7, b8, b9, b10, b11, r, rfl, _⟩
      rfl
    · exact ⟨false, false, false, false, false, false, false, false, false, false, false, false, false, rfl, rfl, by simp, by simp, by simp, fun _ => rfl, by simp, by simp, by simp⟩
    · rintro lst a W' i o ⟨b0, b1, b2, b3, b4, b5, b6, b7, b8, b9, b10, b11, r, rfl, rfl, q1, q2, q3, q4, q5, q6, q7⟩ ho hf hd K hK
      have hi : i < 12 := (Array.getElem?_eq_some_iff.1 ho).1
      have ho2 := ho
      rcases (show i = 0 ∨ i = 1 ∨ i = 2 ∨ i = 3 ∨ i = 4 ∨ i = 5 ∨ i = 6 ∨ i = 7 ∨ i = 8 ∨ i = 9 ∨ i = 10 ∨ i = 11 by omega) with rfl | rfl | rfl | rfl | rfl | rfl | rfl | rfl | rfl | rfl | rfl | rfl
      · simp only [List.getElem?_toArray, List.getElem?_cons_succ, List.getElem?_cons_zero, Option.some.injEq] at ho
        subst ho
        replace hf : b0 = false := hf
        subst hf
        have hcell : W'.cell? ⟨W.heap.size, 0, none⟩ = some (.func (.yield l) #[] #[]) := by
          cases hb9 : b9 with
          | false => rw [q4 hb9]; exact hyc0
          | true =>
            have hb10 : b10 = false := by cases b10 <;> simp_all
            rw [q5 hb9 hb10]; exact hyc1
        refine Go.Proofs.YtbmklpcheopgoaaReg.opIn_val ho2 rfl (fun _ => trivial) (fun c h => by cases h) (v := .func (.yield l) #[] #[]) (w1 := W') ?_ (hK _ _ ⟨true, b1, b2, b3, b4, b5, b6, b7, b8, b9, b10, b11, r, rfl, rfl, by first | exact q1 | (intro h; cases h; done) | (intro h; have := q1 h; simpa using this) | (intros; simp_all), by first | exact q2 | (intro h; cases h; done) | (intro h; have := q2 h; simpa using this) | (intros; simp_all), by first | exact q3 | (intro h; cases h; done) | (intro h; have := q3 h; simpa using this) | (intros; simp_all), by first | exact q4 | (intro h; cases h; done) | (intro h; have := q4 h; simpa using this) | (intros; simp_all), by first | exact q5 | (intro h; cases h; done) | (intro h; have := q5 h; simpa using this) | (intros; simp_all), by first | exact q6 | (intro h; cases h; done) | (intro h; have := q6 h; simpa using this) | (intros; simp_all), by first | exact q7 | (intro h; rfl) | (intro h; cases h; done) | (intros; simp_all)⟩)
        simp [go_sem, hcell]
      · simp only [List.getElem?_toArray, List.getElem?_cons_succ, List.getElem?_cons_zero, Option.some.injEq] at ho
        subst ho
        replace hf : b1 = false := hf
        subst hf
        refine Go.Proofs.YtbmklpcheopgoaaReg.opIn_val ho2 rfl (fun _ => trivial) (fun c h => by cases h) (v := .int .i64 k) (w1 := W') ?_ (hK _ _ ⟨b0, true, b2, b3, b4, b5, b6, b7, b8, b9, b10, b11, r, rfl, rfl, by first | exact q1 | (intro h; cases h; done) | (intro h; have := q1 h; simpa using this) | (intros; simp_all), by first | exact q2 | (intro h; cases h; done) | (intro h; have := q2 h; simpa using this) | (intros; simp_all), by first | exact q3 | (intro h; cases h; done) | (intro h; have := q3 h; simpa using this) | (intros; simp_all), by first | exact q4 | (intro h; cases h; done) | (intro h; have := q4 h; simpa using this) | (intros; simp_all), by first | exact q5 | (intro h; cases h; done) | (intro h; have := q5 h; simpa using this) | (intros; simp_all), by first | exact q6 | (intro h; cases h; done) | (intro h; have := q6 h; simpa using this) | (intros; simp_all), by first | exact q7 | (intro h; rfl) | (intro h; cases h; done) | (intros; simp_all)⟩)
        simp [go_sem]
      · simp only [List.getElem?_toArray, List.getElem?_cons_succ, List.getElem?_cons_zero, Option.some.injEq] at ho
        subst ho
        replace hf : b2 = false := hf
        subst hf
        refine Go.Proofs.YtbmklpcheopgoaaReg.opIn_val ho2 rfl (fun _ => trivial) (fun c h => by cases h) (v := .pointer (some ⟨B, 0, none⟩)) (w1 := W') ?_ (hK _ _ ⟨b0, b1, true, b3, b4, b5, b6, b7, b8, b9, b10, b11, r, rfl, rfl, by first | exact q1 | (intro h; cases h; done) | (intro h; have := q1 h; simpa using this) | (intros; simp_all), by first | exact q2 | (intro h; cases h; done) | (intro h; have := q2 h; simpa using this) | (intros; simp_all), by first | exact q3 | (intro h; cases h; done) | (intro h; have := q3 h; simpa using this) | (intros; simp_all), by first | exact q4 | (intro h; cases h; done) | (intro h; have := q4 h; simpa using this) | (intros; simp_all), by first | exact q5 | (intro h; cases h; done) | (intro h; have := q5 h; simpa using this) | (intros; simp_all), by first | exact q6 | (intro h; cases h; done) | (intro h; have := q6 h; simpa using this) | (intros; simp_all), by first | exact q7 | (intro h; rfl) | (intro h; cases h; done) | (intros; simp_all)⟩)
        simp [go_sem]
      · simp only [List.getElem?_toArray, List.getElem?_cons_succ, List.getElem?_cons_zero, Option.some.injEq] at ho
        subst ho
        replace hf : b3 = false := hf
        subst hf
        have d2 : b2 = true := hd ⟨2, .data⟩ (by simp) rfl
        subst d2
        have h9 : b9 = false := by cases b9 <;> simp_all
        subst h9
        obtain rfl := q4 rfl
        refine Go.Proofs.YtbmklpcheopgoaaReg.opIn_val ho2 rfl (fun _ => trivial) (fun c h => by cases h) (v := .slice (some ad) pts.length c0) (w1 := V1.drew) ?_ (hK _ _ ⟨b0, b1, true, true, b4, b5, b6, b7, b8, false, b10, b11, r, rfl, rfl, by first | exact q1 | (intro h; cases h; done) | (intro h; have := q1 h; simpa using this) | (intros; simp_all), by first | exact q2 | (intro h; cases h; done) | (intro h; have := q2 h; simpa using this) | (intros; simp_all), by first | exact q3 | (intro h; cases h; done) | (intro h; have := q3 h; simpa using this) | (intros; simp_all), by first | exact q4 | (intro h; cases h; done) | (intro h; have := q4 h; simpa using this) | (intros; simp_all), by first | exact q5 | (intro h; cases h; done) | (intro h; have := q5 h; simpa using this) | (intros; simp_all), by first | exact q6 | (intro h; cases h; done) | (intro h; have := q6 h; simpa using this) | (intros; simp_all), by first | exact q7 | (intro h; rfl) | (intro h; cases h; done) | (intros; simp_all)⟩)
        simp [go_sem, hbc, hx0, hx1]
      · simp only [List.getElem?_toArray, List.getElem?_cons_succ, List.getElem?_cons_zero, Option.some.injEq] at ho
        subst ho
        replace hf : b4 = false := hf
        subst hf
        refine Go.Proofs.YtbmklpcheopgoaaReg.opIn_val ho2 rfl (fun _ => trivial) (fun c h => by cases h) (v := .pointer (some ⟨X, 0, none⟩)) (w1 := W') ?_ (hK _ _ ⟨b0, b1, b2, b3, true, b5, b6, b7, b8, b9, b10, b11, r, rfl, rfl, by first | exact q1 | (intro h; cases h; done) | (intro h; have := q1 h; simpa using this) | (intros; simp_all), by first | exact q2 | (intro h; cases h; done) | (intro h; have := q2 h; simpa using this) | (intros; simp_all), by first | exact q3 | (intro h; cases h; done) | (intro h; have := q3 h; simpa using this) | (intros; simp_all), by first | exact q4 | (intro h; cases h; done) | (intro h; have := q4 h; simpa using this) | (intros; simp_all), by first | exact q5 | (intro h; cases h; done) | (intro h; have := q5 h; simpa using this) | (intros; simp_all), by first | exact q6 | (intro h; cases h; done) | (intro h; have := q6 h; simpa using this) | (intros; simp_all), by first | exact q7 | (intro h; rfl) | (intro h; cases h; done) | (intros; simp_all)⟩)
        simp [go_sem]
      · simp only [List.getElem?_toArray, List.getElem?_cons_succ, List.getElem?_cons_zero, Option.some.injEq] at ho
        subst ho
        replace hf : b5 = false := hf
        subst hf
        have d4 : b4 = true := hd ⟨4, .data⟩ (by simp) rfl
        subst d4
        have h9 : b9 = false := by cases b9 <;> simp_all
        subst h9
        obtain rfl := q4 rfl
        refine Go.Proofs.YtbmklpcheopgoaaReg.opIn_val ho2 rfl (fun _ => trivial) (fun c h => by cases h) (v := .int .i64 s) (w1 := V1.drew) ?_ (hK _ _ ⟨b0, b1, b2, b3, true, true, b6, b7, b8, false, b10, b11, r, rfl, rfl, by first | exact q1 | (intro h; cases h; done) | (intro h; have := q1 h; simpa using this) | (intros; simp_all), by first | exact q2 | (intro h; cases h; done) | (intro h; have := q2 h; simpa using this) | (intros; simp_all), by first | exact q3 | (intro h; cases h; done) | (intro h; have := q3 h; simpa using this) | (intros; simp_all), by first | exact q4 | (intro h; cases h; done) | (intro h; have := q4 h; simpa using this) | (intros; simp_all), by first | exact q5 | (intro h; cases h; done) | (intro h; have := q5 h; simpa using this) | (intros; simp_all), by first | exact q6 | (intro h; cases h; done) | (intro h; have := q6 h; simpa using this) | (intros; simp_all), by first | exact q7 | (intro h; rfl) | (intro h; cases h; done) | (intros; simp_all)⟩)
        simp [go_sem, hbc, hx0, hx1]
      · simp only [List.getElem?_toArray, List.getElem?_cons_succ, List.getElem?_cons_zero, Option.some.injEq] at ho
        subst ho
        replace hf : b6 = false := hf
        subst hf
        refine Go.Proofs.YtbmklpcheopgoaaReg.opIn_val ho2 rfl (fun _ => trivial) (fun c h => by cases h) (v := .pointer (some ⟨X, 1, none⟩)) (w1 := W') ?_ (hK _ _ ⟨b0, b1, b2, b3, b4, b5, true, b7, b8, b9, b10, b11, r, rfl, rfl, by first | exact q1 | (intro h; cases h; done) | (intro h; have := q1 h; simpa using this) | (intros; simp_all), by first | exact q2 | (intro h; cases h; done) | (intro h; have := q2 h; simpa using this) | (intros; simp_all), by first | exact q3 | (intro h; cases h; done) | (intro h; have := q3 h; simpa using this) | (intros; simp_all), by first | exact q4 | (intro h; cases h; done) | (intro h; have := q4 h; simpa using this) | (intros; simp_all), by first | exact q5 | (intro h; cases h; done) | (intro h; have := q5 h; simpa using this) | (intros; simp_all), by first | exact q6 | (intro h; cases h; done) | (intro h; have := q6 h; simpa using this) | (intros; simp_all), by first | exact q7 | (intro h; rfl) | (intro h; cases h; done) | (intros; simp_all)⟩)
        simp [go_sem]
      · simp only [List.getElem?_toArray, List.getElem?_cons_succ, List.getElem?_cons_zero, Option.some.injEq] at ho
        subst ho
        replace hf : b7 = false := hf
        subst hf
        have d6 : b6 = true := hd ⟨6, .data⟩ (by simp) rfl
        subst d6
        have h9 : b9 = false := by cases b9 <;> simp_all
        subst h9
        obtain rfl := q4 rfl
        refine Go.Proofs.YtbmklpcheopgoaaReg.opIn_val ho2 rfl (fun _ => trivial) (fun c h => by cases h) (v := .int .i64 e) (w1 := V1.drew) ?_ (hK _ _ ⟨b0, b1, b2, b3, b4, b5, true, true, b8, false, b10, b11, r, rfl, rfl, by first | exact q1 | (intro h; cases h; done) | (intro h; have := q1 h; simpa using this) | (intros; simp_all), by first | exact q2 | (intro h; cases h; done) | (intro h; have := q2 h; simpa using this) | (intros; simp_all), by first | exact q3 | (intro h; cases h; done) | (intro h; have := q3 h; simpa using this) | (intros; simp_all), by first | exact q4 | (intro h; cases h; done) | (intro h; have := q4 h; simpa using this) | (intros; simp_all), by first | exact q5 | (intro h; cases h; done) | (intro h; have := q5 h; simpa using this) | (intros; simp_all), by first | exact q6 | (intro h; cases h; done) | (intro h; have := q6 h; simpa using this) | (intros; simp_all), by first | exact q7 | (intro h; rfl) | (intro h; cases h; done) | (intros; simp_all)⟩)
        simp [go_sem, hbc, hx0, hx1]
      · simp only [List.getElem?_toArray, List.getElem?_cons_succ, List.getElem?_cons_zero, Option.some.injEq] at ho
        subst ho
        replace hf : b8 = false := hf
        subst hf
        have d3 : b3 = true := hd ⟨3, .data⟩ (by simp) rfl
        subst d3
        have d5 : b5 = true := hd ⟨5, .data⟩ (by simp) rfl
        subst d5
        have d7 : b7 = true := hd ⟨7, .data⟩ (by simp) rfl
        subst d7
        refine Go.Proofs.YtbmklpcheopgoaaReg.opIn_val ho2 rfl (fun _ => trivial) (fun c h => by cases h) (v := .slice (some (ad.add (s * 3))) (e - s) (c0 - s)) (w1 := W') ?_ (hK _ _ ⟨b0, b1, b2, true, b4, true, b6, true, true, b9, b10, b11, r, rfl, rfl, by first | exact q1 | (intro h; cases h; done) | (intro h; have := q1 h; simpa using this) | (intros; simp_all), by first | exact q2 | (intro h; cases h; done) | (intro h; have := q2 h; simpa using this) | (intros; simp_all), by first | exact q3 | (intro h; cases h; done) | (intro h; have := q3 h; simpa using this) | (intros; simp_all), by first | exact q4 | (intro h; cases h; done) | (intro h; have := q4 h; simpa using this) | (intros; simp_all), by first | exact q5 | (intro h; cases h; done) | (intro h; have := q5 h; simpa using this) | (intros; simp_all), by first | exact q6 | (intro h; cases h; done) | (intro h; have := q6 h; simpa using this) | (intros; simp_all), by first | exact q7 | (intro h; rfl) | (intro h; cases h; done) | (intros; simp_all)⟩)
        simp [go_sem, hus, hse, hel, hsc, hsc2]
        trace_state
      · simp only [List.getElem?_toArray, List.getElem?_cons_succ, List.getElem?_cons_zero, Option.some.injEq] at ho
        subst ho
        replace hf : b9 = false := hf
        subst hf
        have d8 : b8 = true := hd ⟨8, .data⟩ (by simp) rfl
        subst d8
        have h9 := q4 rfl
        subst h9
        have h10 : b10 = false := by cases b10 <;> simp_all
        subst h10
        refine Go.Proofs.YtbmklpcheopgoaaReg.opIn_val ho2 rfl (fun _ => trivial) (fun c h => by cases h) (v := .slice (some ⟨g, 0, none⟩) (e - s) cN) (w1 := w1) ?_ (hK _ _ ⟨b0, b1, b2, b3, b4, b5, b6, b7, true, true, false, b11, r, rfl, rfl, fun _ => ⟨(q2 rfl).1, (q2 rfl).2.1, (q2 rfl).2.2, rfl⟩, q2, (by intro h; cases h), (by intro h; cases h), fun _ _ => rfl, (by intro h; cases h), by simpa using q7⟩)
        exact run_app rfl rfl rfl HR.out
      · simp only [List.getElem?_toArray, List.getElem?_cons_succ, List.getElem?_cons_zero, Option.some.injEq] at ho
        subst ho
        replace hf : b10 = false := hf
        subst hf
        have d0 : b0 = true := hd ⟨0, .data⟩ (by simp) rfl
        subst d0
        have d1 : b1 = true := hd ⟨1, .data⟩ (by simp) rfl
        subst d1
        have d9 : b9 = true := hd ⟨9, .data⟩ (by simp) rfl
        subst d9
        have h10 := q5 rfl rfl
        rw [← h10] at hYd
        refine Go.Proofs.YtbmklpcheopgoaaReg.opIn_wp ho2 rfl (op_yield (l := l) rfl (by simp [go_sem]) (by first | (simp [go_sem]; done) | (simp [go_sem]; rfl)) (show YieldAt (Fence.wide.inRound lc) (n - 1) Try.prog l _ W' _ from hYd (n - 1)) rfl (fun _ => trivial) ?_)
        rintro e2 W2 ⟨own', r1, r2, r3, r4⟩
        have hgv : (fun b => ∃ v a0 n0 c0', #[Value.int .i64 k, Value.slice (some ⟨g, 0, none⟩) (e - s) cN] = #[v, Value.slice (some a0) n0 c0'] ∧ b = a0.block) = (fun b => b = g) := by
          funext b
          refine propext ⟨?_, ?_⟩
          · rintro ⟨v, a0, n0, c0', he, rfl⟩
            simp at he
            obtain ⟨_, rfl, _⟩ := he
            rfl
          · rintro rfl
            exact ⟨_, _, _, _, rfl, rfl⟩
        have hP : ∃ rr, e2 = .returned (.bool rr) ∧ Post rr W2 := by
          rw [hPost]
          rcases r4 with ⟨rfl, r4⟩ | ⟨rfl, r4⟩
          · exact ⟨true, rfl, own', by rw [← hgv]; rw [h10] at r1; exact r1, r2, by rw [h10] at r3; exact r3.mono (fun b _ hh => by rcases hh with hh | hh | hh; exact .inl hh; exact .inr (.inl hh); exact .inr (.inr (by rw [← congrFun hgv b]; exact hh))), .inl ⟨rfl, r4⟩⟩
          · exact ⟨false, rfl, own', by rw [← hgv]; rw [h10] at r1; exact r1, r2, by rw [h10] at r3; exact r3.mono (fun b _ hh => by rcases hh with hh | hh | hh; exact .inl hh; exact .inr (.inl hh); exact .inr (.inr (by rw [← congrFun hgv b]; exact hh))), .inr ⟨rfl, r4⟩⟩
        obtain ⟨rr, rfl, hP⟩ := hP
        have h11 : b11 = false := by cases b11 with
          | false => rfl
          | true => exact absurd (q7 rfl) (by decide)
        exact ⟨_, rfl, hK _ _ ⟨true, true, b2, b3, b4, b5, b6, b7, b8, true, true, b11, rr, rfl, by subst h11; rfl, by simpa using q1, by simpa using q2, fun _ => ⟨rfl, rfl, rfl⟩, (by intro h; cases h), (by intro _ h; cases h), fun _ => hP, fun _ => rfl⟩⟩
      · simp only [List.getElem?_toArray, List.getElem?_cons_succ, List.getElem?_cons_zero, Option.some.injEq] at ho
        subst ho
        replace hf : b11 = false := hf
        subst hf
        have d10 : b10 = true := hd ⟨10, .data⟩ (by simp) rfl
        subst d10
        refine Go.Proofs.YtbmklpcheopgoaaReg.opIn_val ho2 rfl (fun _ => trivial) (fun c h => by cases h) (v := .bool (!r)) (w1 := W') ?_ (hK _ _ ⟨b0, b1, b2, b3, b4, b5, b6, b7, b8, b9, true, true, r, rfl, rfl, by first | exact q1 | (intro h; cases h; done) | (intro h; have := q1 h; simpa using this) | (intros; simp_all), by first | exact q2 | (intro h; cases h; done) | (intro h; have := q2 h; simpa using this) | (intros; simp_all), by first | exact q3 | (intro h; cases h; done) | (intro h; have := q3 h; simpa using this) | (intros; simp_all), by first | exact q4 | (intro h; cases h; done) | (intro h; have := q4 h; simpa using this) | (intros; simp_all), by first | exact q5 | (intro h; cases h; done) | (intro h; have := q5 h; simpa using this) | (intros; simp_all), by first | exact q6 | (intro h; cases h; done) | (intro h; have := q6 h; simpa using this) | (intros; simp_all), by first | exact q7 | (intro h; rfl) | (intro h; cases h; done) | (intros; simp_all)⟩)
        simp [go_sem]
    · rintro lst a W' ⟨b0, b1, b2, b3, b4, b5, b6, b7, b8, b9, b10, b11, r, rfl, rfl, q1, q2, q3, q4, q5, q6, q7⟩ hall
      have a0 : b0 = true := hall 0 (by decide)
      subst a0
      have a1 : b1 = true := hall 1 (by decide)
      subst a1
      have a2 : b2 = true := hall 2 (by decide)
      subst a2
      have a3 : b3 = true := hall 3 (by decide)
      subst a3
      have a4 : b4 = true := hall 4 (by decide)
      subst a4
      have a5 : b5 = true := hall 5 (by decide)
      subst a5
      have a6 : b6 = true := hall 6 (by decide)
      subst a6
      have a7 : b7 = true := hall 7 (by decide)
      subst a7
      have a8 : b8 = true := hall 8 (by decide)
      subst a8
      have a9 : b9 = true := hall 9 (by decide)
      subst a9
      have a10 : b10 = true := hall 10 (by decide)
      subst a10
      have a11 : b11 = true := hall 11 (by decide)
      subst a11
      have hP := q6 rfl
      rw [hPost] at hP
      obtain ⟨own', r1, r2, r3, r4⟩ := hP
      have hsz1 : V1.heap.size ≤ w1.heap.size := hNb.size
      have hWV := hs.chg.size
      have hYl : W.heap.size < V1.heap.size := (Array.getElem?_eq_some_iff.1 hy).1
      have hsub : ∀ b, own' b → own b ∨ V1.heap.size ≤ b := by
        intro b hb
        rcases r1.2 b hb with h | h | h
        · exact .inl (hu b h)
        · exact .inr (by omega)
        · exact .inr (by subst h; exact hg')
      have hgr : Grow own (fun b => own b ∨ own' b) V1 := ⟨fun b h => .inl h, fun b h => h.elim .inl (hsub b)⟩
      have hchg : Chg own V1 W' := ⟨r3.os.trans hNb.os, r3.tape.trans hNb.tape, r3.output.trans hNb.output, Nat.le_trans hsz1 r3.size, fun b hb hn => (r3.block b (by omega) (by
        rintro (h | h | h)
        · exact hn (hu b h)
        · subst h; exact hn hl
        · subst h; omega)).trans (hNb.block b hb (fun h => h))⟩
      have hlt2 : ∀ b, (own b ∨ own' b) → b < W'.heap.size := by
        rintro b (h | h)
        · exact hchg.lt (how b h)
        · exact r2 b h
      have hny2 : ¬ (own W.heap.size ∨ own' W.heap.size) := by
        rintro (h | h)
        · exact hny h
        · rcases hsub _ h with h | h
          · exact hny h
          · omega
      rcases r4 with ⟨rfl, r4⟩ | ⟨rfl, r4⟩
      · gi_wp2
        refine ⟨fun b => own b ∨ own' b, hgr, hlt2, hchg, ⟨.inl hl, hny2, hchg.heap hy hny⟩, own', r4, fun b h => .inr h, hs1.next r1 r2 r3 (fun b h => by subst h; omega)⟩
      · gi_wp2
        refine ⟨fun b => own b ∨ own' b, hgr, hlt2, hchg, rfl, own', r4, fun b h => ⟨.inr h, r2 b h⟩⟩
  · rintro D own V1 hD how hnD ⟨⟨hl, hny, hy⟩, u, hj, hu, hs⟩ hdef
    refine leaves_collected hdef fun V2 hc => ⟨_, results_none rfl _ _ _, ⟨_, rfl⟩, u, fun b hb => hc.lt (hs.lt b hb), .inl (hJ _ _ _ _ hj (hc.mono fun b _ hb => ⟨by omega, fun h => hnD (by subst hb; exact hu _ h)⟩))⟩
  · rintro D c k own V1 hD how hnD hk ⟨rfl, u, hj, hu⟩ hdef
    gi_wp2
    refine leaves_collected hdef fun V2 hc => ⟨_, results_none rfl _ _ _, ⟨_, rfl⟩, u, fun b hb => hc.lt (hu b hb).2, .inr ⟨k, hk, hJx _ _ _ _ hj (hc.mono fun b _ hb => ⟨by omega, fun h => hnD (by subst hb; exact (hu _ h).1)⟩)⟩⟩
end Go.Proofs.Ytbmklpcheopgoaa.H

namespace Go.Proofs.Ytbmklpcheopgoaa.H
open Go.RowKit Go.Proofs.YtbmklpcheopgoaaW.PrintWords Go.Proofs.YtbmklpcheopgoaaW.PrintLast Go.Proofs.YtbmklpcheopgoaaW.PrintMore
attribute [local go_sem] max2_int min2_int max_two min_two max_three min_three max_four min_four
set_option linter.unusedVariables false
set_option linter.unusedSimpArgs false
open Go.Proofs.YtbmklpcheopgoaaOps Go.Proofs.YtbmklpcheopgoaaIt Go.Proofs.YtbmklpcheopgoaaBlks Go.Shelf
attribute [local go_sem] Oper.semAt_some wide_depth wide_fn World.cell?_alloc_some
def areaStep (st : Int × S33) (b : S33) : Int × S33 := (wrap64 (st.1 + wrap64 (wrap64 (st.2.f0 * b.f1) - wrap64 (b.f0 * st.2.f1))), b)
def areaK (c : List S33) (n : Int) (k : Nat) : Int × S33 := (List.range k).foldl (fun st (j : Nat) => areaStep st (rd_T33 c (j : Int))) (n, rd_T33 c (c.length - 1))
def areaRow (c : List S33) (n : Int) : Int := (areaK c n c.length).1
def areaL (pts : List S33) (es : List Int) (k : Nat) : Int := ((cutsL es pts.length).take k).foldl (fun n c => areaRow (contourOf pts c) n) 0
theorem areaK_succ (c : List S33) (n : Int) (k : Nat) : areaK c n (k + 1) = areaStep (areaK c n k) (rd_T33 c k) := by simp [areaK, List.range_succ]
def areaPt (p : S33) : Obj := .cells #[.int .i64 p.f0, .int .i64 p.f1, .bool p.f2] 33 (0, 0)
set_option maxRecDepth 100000 in
set_option maxHeartbeats 4000000 in
theorem area_calls (A0 A1 : Option Addr) (c0 c1 : Nat) (pts : List S33) (es : List Int) (w : World) (hp : Kd.C k33 w A0 pts.length pts) (hc0 : pts.length ≤ c0) (hes : (Kd.int .i64).C w A1 es.length es) (hlim : pts.length ≤ 1000000) :
  Calls Try.prog 24 #[.agg #[.slice A0 pts.length c0, .slice A1 es.length c1]] w fun e w' => e = .returned (.int .i64 (areaL pts es (cutsL es pts.length).length)) ∧ Below w.heap.size w w' := by
 have hu := Try.underlying25
 have hu2 := Try.underlying33
 refine (callsIn_wide (n := 0)).1 (callsIn_of_wp_marks Try.func24 rfl trivial ?_ rfl)
 simp only [Try.ntmps24, List.size_toArray, List.length_cons, List.length_nil, Nat.reduceAdd, Nat.reduceSub, Array.replicate_succ, Array.replicate_zero, List.push_toArray, List.append_toArray, List.nil_append, List.cons_append]
 gi_wp2
 refine CallsIn.mono (contours_calls 0 _ _ _ _ _ _ _) ?_
 rintro e w' ⟨rfl, rfl⟩
 gi_wp2
 generalize hV : World.alloc (World.alloc (World.alloc w _) _) _ = V
 have hVs : V.heap.size = w.heap.size + 1 + 1 + 1 := by rw [← hV]; simp
 have hbV : Below w.heap.size w V := by rw [← hV]; exact (((Below.refl _ w).alloc (Nat.le_refl _) _).alloc (by simp) _).alloc (by simp; omega) _
 have hn1 : V.heap[w.heap.size + 1]? = some (.cells #[.int .i64 0] 3 (0, 0)) := by
  rw [← hV]; refine kA ?_ _; have := blk_new (w.alloc (.cells #[.slice A0 pts.length c0, .slice A1 es.length c1] 25)) (.cells #[.int .i64 0] 3); rwa [World.size_alloc] at this
 have hq1 : V.heap[w.heap.size + 1 + 1]? = some (.cells #[.slice A0 pts.length c0, .slice A1 es.length c1] 25 (0, 0)) := by
  rw [← hV]; have := blk_new ((w.alloc (.cells #[.slice A0 pts.length c0, .slice A1 es.length c1] 25)).alloc (.cells #[.int .i64 0] 3)) (.cells #[.slice A0 pts.length c0, .slice A1 es.length c1] 25); rwa [World.size_alloc, World.size_alloc] at this
 have hit := contours_it V (w.heap.size + 1 + 1) A0 A1 c0 c1 pts es hq1 (Kd.C_below hp hbV) (Kd.C_below hes hbV) hc0 hlim
 have hwV : w.heap.size + 1 < V.heap.size := by omega
 refine range_outer hit (by rfl) (fun args w => by simp [go_sem])
  (fun k own V' => (own (w.heap.size + 1) ∧ ∀ b, own b → w.heap.size ≤ b) ∧ V'.heap[w.heap.size + 1]? = some (.cells #[.int .i64 (areaL pts es k)] 3 (0, 0)) ∧ Below w.heap.size w V')
  (fun c k own V' => False)
  (fun b => b = w.heap.size + 1) ?_ ?_ ?_ ?_ ?_
  (fun k own a' V' => ∃ (c : Int × Int) (A : Option Addr) (cap : Nat), (cutsL es pts.length)[k]? = some c ∧ a' = ⟨#[.agg #[.slice A0 pts.length c0, .slice A1 es.length c1], .pointer (some ⟨w.heap.size, 0, none⟩), .int .i64 0, .pointer (some ⟨w.heap.size + 1, 0, none⟩), undef, .slice A (contourOf pts c).length cap, undef, undef, undef, .agg #[.slice A0 pts.length c0, .slice A1 es.length c1], .func (.func 54) #[] #[.pointer (some ⟨w.heap.size + 1 + 1, 0, none⟩)], .int .i64 k, .slice A (contourOf pts c).length cap, undef, undef, undef, undef, undef, undef, undef, undef, undef, undef, undef, undef, undef, undef, undef, undef, undef, undef, undef, undef, undef, undef, undef, undef, undef, undef, undef, undef], []⟩ ∧ (contourOf pts c).length ≤ cap ∧ Kd.C k33 V' A (contourOf pts c).length (contourOf pts c)) ?_ ?_ ?_ ?_ ?_
 ·
  rintro k own V1 V2 ⟨⟨h1, h2⟩, h3, h4⟩ hc
  exact ⟨⟨h1, h2⟩, hc.heap h3 (fun h => by omega), h4.trans (hc.below (Nat.le_trans (by omega) h4.size) (fun i hi h => by omega))⟩
 ·
  rintro c k own V1 V2 h hc
  exact h
 ·
  rintro k W args ⟨c, A, cap, _, rfl, _⟩
  rfl
 ·
  rintro b rfl
  refine ⟨by omega, fun hr => ?_⟩
  rcases hr with ⟨h0, ad, rfl, hr⟩ | ⟨h0, ad, rfl, hr⟩ | hr
  ·
   obtain ⟨ad', e, hx, _⟩ := at_T33 hp 0 (by omega) (by omega)
   cases e
   have := World.block_lt_of_cell? w _ hx
   rw [add_block] at this
   omega
  ·
   obtain ⟨ad', e, hx⟩ := Kd.at_int hes 0 (by omega) (by omega)
   cases e
   have := World.block_lt_of_cell? w _ hx
   rw [add_block] at this
   omega
  ·
   omega
 ·
  exact ⟨⟨rfl, fun b h => by omega⟩, hn1, hbV⟩
 ·
  rintro lc k own a' V1 o o' hlc ⟨c, A, cap, hk, ha, hc, hC⟩ ho hcells
  refine ⟨c, A, cap, hk, ha, hc, hC.1, hC.2.1, fun hn => ?_⟩
  obtain ⟨ad, e, hx⟩ := hC.2.2 hn
  refine ⟨ad, e, fun i x hi => ?_⟩
  obtain ⟨cs, q1, q2, q3⟩ := hx i x hi
  refine ⟨cs, q1, flat_point _ _ _ _ q2, fun j u hu => ?_⟩
  have hcell := q3 j u hu
  refine Eq.trans (World.cell?_of_block (World.putObj_heap_other ?_)) hcell
  intro hl
  unfold World.cell? at hcell
  rw [hl] at hcell
  rw [ho] at hcell
  cases o <;> simp_all [Obj.isCells]
 ·
  rintro lc n k own args V1 hlc ⟨⟨h1, h2⟩, h3, h4⟩ how hlt hno hk ⟨c, A, cap, hkc, rfl, hcap, hC, _⟩ _
  gi_wp2
  exact ⟨own, GrowG.refl _ _ _, how, Chg.refl _ _, ⟨⟨h1, h2⟩, h3, h4⟩, c, A, cap, hkc, rfl, hcap, hC⟩
 ·
  rintro lc n k own a' V1 hlc ⟨⟨h1, h2⟩, h3, h4⟩ how ⟨rl, hrl⟩ hno hk ⟨c, A, cap, hkc, rfl, hcap, hC⟩
  obtain ⟨m1, m2, m3⟩ := cutsF_mem es pts.length 0 k c hkc
  have hlenc : (contourOf pts c).length = c.2.toNat - c.1.toNat := by simp [contourOf]; omega
  have hpos : 0 < (contourOf pts c).length := by omega
  obtain ⟨ad, e0, x0, x1, x2⟩ := at_T33 hC (((contourOf pts c).length : Int) - 1) (by omega) (by omega)
  subst e0
  have hsub : areaL pts es (k + 1) = areaRow (contourOf pts c) (areaL pts es k) := by
   simp [areaL, List.take_add_one, hkc]
  have hidx : (((contourOf pts c).length : Int) - 1).toNat = (contourOf pts c).length - 1 := by omega
  rw [hidx] at x0 x1 x2
  clear hlenc hidx m1 m2 m3
  generalize hrow : contourOf pts c = row at *
  have HROW := Lib.hid hrow
  have hmx := Kd.C_max hC
  clear hrow
  have hB0 : Blks [(w.heap.size + 1, .cells #[.int .i64 (areaL pts es k)] 3 (0, 0))] V1 := (Blks.nil V1).add h3 (by simp)
  have hadw : ad.block ≠ w.heap.size + 1 := by
   intro hh
   rw [add_block, hh] at x2
   rw [hB0.cell 0 rfl] at x2
   simp at x2
  have hHB := Lib.hid hB0
  clear hB0
  have hn := blk_cell h3 0
  have hnf := blk_frozen h3 0
  simp at hn
  gi_wp2
  have hB1 := hHB.out.alloc (areaPt (rd_T33 row (row.length - 1)))
  have hadV : ad.block < V1.heap.size := by have := World.block_lt_of_cell? V1 _ x0; rwa [add_block] at this
  clear hn hnf x0 x1 x2
  gi_loopw [8, 21] (fun _ v21 wr => ∃ i : Nat, i ≤ row.length ∧ v21 = .int .i64 i ∧ Aside0 (Blks [(V1.heap.size, areaPt (areaK row (areaL pts es k) i).2), (w.heap.size + 1, .cells #[.int .i64 (areaK row (areaL pts es k) i).1] 3 (0, 0))] wr ∧ Chg (fun b => b = w.heap.size + 1) V1 wr))
   (fun _ v21 _ => row.length - (intOf v21).toNat)
  case atStart => exact ⟨0, by omega, rfl, ⟨hB1, (Chg.refl _ _).alloc _⟩⟩
  case round =>
   obtain ⟨i, hi, rfl, ⟨hB, hC1⟩⟩ := hrel
   by_cases hlt : i < row.length
   ·
    obtain ⟨ad', e1, y0, y1, y2⟩ := at_T33 hC (i : Int) (by omega) (by omega)
    cases e1
    simp only [Int.toNat_natCast] at y0 y1 y2
    replace y0 := (hC1.cell (by rw [add_block]; exact hadV) (by rw [add_block]; exact hadw)).trans y0
    replace y1 := (hC1.cell (by rw [add_block]; exact hadV) (by rw [add_block]; exact hadw)).trans y1
    replace y2 := (hC1.cell (by rw [add_block]; exact hadV) (by rw [add_block]; exact hadw)).trans y2
    have hst := Lib.hid (areaK_succ row (areaL pts es k) i)
    have g0 := hB.cell 0 rfl 0
    have g1 := hB.cell 0 rfl 1
    have g2 := hB.cell 0 rfl 2
    have g3 := hB.cell 1 rfl 0
    have f0 := hB.free 0 rfl 0
    have f1 := hB.free 0 rfl 1
    have f2 := hB.free 0 rfl 2
    have f3 := hB.free 1 rfl 0
    simp at g0 g1 g2 g3
    have q1 := (hB.lt (w.heap.size + 1) (by simp))
    have q2 := (hB.lt V1.heap.size (by simp))
    have q3 : ¬ (V1.heap.size = w.heap.size + 1) := by have := hB.nd; simpa using this
    have q4 : ¬ (w.heap.size + 1 = V1.heap.size) := fun h => q3 h.symm
    have q5 : ¬ (w.heap.size + 1 = wr.heap.size) := by omega
    have q6 : ¬ (V1.heap.size = wr.heap.size) := by omega
    have q7 : ¬ (wr.heap.size = w.heap.size + 1) := by omega
    have q8 : ¬ (wr.heap.size = V1.heap.size) := by omega
    have HBB := Lib.hid hB
    have HCC := Lib.hid hC1
    clear hB hC1
    gi_wp2
    refine ⟨⟨i + 1, by omega, by simp, ⟨?_, ?_⟩⟩, by simp [intOf]; omega⟩
    ·
     rw [hst.out]
     exact (((((HBB.out.set 1 rfl 0 _).set 0 rfl 0 _).set 0 rfl 1 _).set 0 rfl 2 _).alloc _).tail
    ·
     exact ((((HCC.out.setCell (p := ⟨w.heap.size + 1, 0, none⟩) (fun _ => rfl) _).setCell (p := ⟨V1.heap.size, 0, none⟩) (fun h => absurd h (Nat.lt_irrefl _)) _).setCell (p := ⟨V1.heap.size, 1, none⟩) (fun h => absurd h (Nat.lt_irrefl _)) _).setCell (p := ⟨V1.heap.size, 2, none⟩) (fun h => absurd h (Nat.lt_irrefl _)) _).alloc _
   ·
    obtain rfl : i = row.length := by omega
    gi_wp2
    exact ⟨own, Grow.refl _ _, fun b h => hC1.lt (how b h), hC1.mono (fun b _ hb => by subst hb; exact h1), ⟨h1, h2⟩, by rw [hsub]; exact hB.blk 1 rfl, h4.trans (hC1.below (B := w.heap.size) h4.size (fun i hi h => by omega))⟩
 ·
  rintro D own V1 hD how hnD ⟨⟨h1, h2⟩, h3, h4⟩ hdef
  have hc := blk_cell h3 0
  simp at hc
  gi_wp2
  refine leaves_collected hdef fun V2 hc => ⟨.int .i64 (areaL pts es (cutsL es pts.length).length), by simp [results, Try.f24, go_sem], rfl, h4.trans (hc.below (Nat.le_trans (Nat.le_refl _) h4.size) (fun i hi h => by omega))⟩
 ·
  rintro D c k own V1 _ _ _ _ h
  exact h.elim
def outline_Area.f (l0_0 : List S33) (l0_1 : List Int) : Option Int :=
 if l0_0.length ≤ 1000000 then some (areaL l0_0 l0_1 (cutsL l0_1 l0_0.length).length) else none
theorem outline_Area.calls (A0_0 : Option Addr) (c0_0 : Nat) (l0_0 : List (S33)) (A0_1 : Option Addr) (c0_1 : Nat) (l0_1 : List Int) (r : Int) (w : World) (hr0_0 : Kd.C k33 w A0_0 l0_0.length l0_0) (hc0_0 : l0_0.length ≤ c0_0) (hr0_1 : Kd.C (Kd.int .i64) w A0_1 l0_1.length l0_1) (hc0_1 : l0_1.length ≤ c0_1) (h : outline_Area.f l0_0 l0_1 = some r) :
  Calls Try.prog 24 #[.agg #[.slice A0_0 l0_0.length c0_0, .slice A0_1 l0_1.length c0_1]] w fun e w' => e = .returned (.int .i64 r) ∧ Below w.heap.size w w' := by
 unfold outline_Area.f at h
 split at h
 ·
  rename_i hl
  simp only [Option.some.injEq] at h
  subst h
  exact area_calls A0_0 A0_1 c0_0 c0_1 l0_0 l0_1 w hr0_0 hc0_0 hr0_1 hl
 ·
  cases h
end Go.Proofs.Ytbmklpcheopgoaa.H

namespace Go.Proofs.Ytbmklpcheopgoaa.H
open Go.RowKit Go.Proofs.YtbmklpcheopgoaaW.PrintWords Go.Proofs.YtbmklpcheopgoaaW.PrintLast Go.Proofs.YtbmklpcheopgoaaW.PrintMore
attribute [local go_sem] max2_int min2_int max_two min_two max_three min_three max_four min_four
set_option linter.unusedVariables false
set_option linter.unusedSimpArgs false
open Go.Proofs.YtbmklpcheopgoaaOps Go.Proofs.YtbmklpcheopgoaaIt Go.Proofs.YtbmklpcheopgoaaBlks Go.Proofs.YtbmklpcheopgoaaFlat Go.Shelf
attribute [local go_sem] Oper.semAt_some wide_depth wide_fn World.cell?_alloc_some
theorem told_info : (Try.prog.info? 22).map (fun i => (i.zero, i.size, i.bytes)) = some (some (.slice none 0 0), Kd.sz (Kd.slice 33 k33), 24) := by kernel_rfl
def toldK (pts : List S33) (es : List Int) (k : Nat) : List (List S33) := ((cutsL es pts.length).take k).map (contourOf pts)
theorem toldK_len (pts : List S33) (es : List Int) (k : Nat) (h : k ≤ (cutsL es pts.length).length) : (toldK pts es k).length = k := by simp [toldK, h]
theorem told_cuts_len (es : List Int) (n : Int) : ∀ b, (cutsF b es n).length ≤ es.length := by
 induction es with
 | nil => intro b; simp [cutsF]
 | cons e es ih =>
  intro b
  unfold cutsF
  split
  ·
   simp
  ·
   simp [ih (e + 1)]
theorem told_nil (l : Nat) (w : World) : (binOp .eql 73 (.func (Fn.func 54) #[] #[.pointer (some ⟨l, 0, none⟩)]) .nilFunc).run Try.prog w = .ok (.bool false) w := by kernel_rfl
set_option maxRecDepth 100000 in
set_option maxHeartbeats 4000000 in
theorem told_calls (A0 A1 : Option Addr) (c0 c1 : Nat) (pts : List S33) (es : List Int) (w : World) (hp : Kd.C k33 w A0 pts.length pts) (hc0 : pts.length ≤ c0) (hes : (Kd.int .i64).C w A1 es.length es) (hc1 : es.length ≤ c1) (hlim : pts.length ≤ 1000000) (hlime : es.length ≤ 1000000) :
  Calls Try.prog 16 #[.agg #[.slice A0 pts.length c0, .slice A1 es.length c1]] w fun e w' => ∃ v0 : Value, e = .returned (.tuple #[v0, .bool true]) ∧ Kd.S (Kd.slice 33 k33) 22 w' w.heap.size (fun _ => True) v0 (toldK pts es (cutsL es pts.length).length) ∧ Below w.heap.size w w' := by
 have hu := Try.underlying25
 refine (callsIn_wide (n := 0)).1 (callsIn_of_wp_marks Try.func16 rfl trivial ?_ rfl)
 simp only [Try.ntmps16, List.size_toArray, List.length_cons, List.length_nil, Nat.reduceAdd, Nat.reduceSub, Array.replicate_succ, Array.replicate_zero, List.push_toArray, List.append_toArray, List.nil_append, List.cons_append]
 have hnil := told_nil
 gi_wp2
 refine CallsIn.mono (contours_calls 0 _ _ _ _ _ _ _) ?_
 rintro e w' ⟨rfl, rfl⟩
 gi_wp2
 generalize hV : World.alloc (World.alloc (World.alloc (World.alloc (World.alloc (World.alloc w _) _) _) _) _) _ = V
 have hVs : V.heap.size = w.heap.size + 1 + 1 + 1 + 1 + 1 + 1 := by rw [← hV]; simp
 have hbw : Below w.heap.size w V := by rw [← hV]; exact ((((((Below.refl _ w).alloc (Nat.le_refl _) _).alloc (by simp) _).alloc (by simp; omega) _).alloc (by simp; omega) _).alloc (by simp; omega) _).alloc (by simp; omega) _
 have hB : Blks [(w.heap.size + 1 + 1 + 1 + 1 + 1, .cells #[.slice A0 pts.length c0, .slice A1 es.length c1] 25 (0, 0)), (w.heap.size + 1 + 1 + 1 + 1, .cells #[.slice (some ⟨w.heap.size + 1 + 1 + 1, 0, none⟩) 0 0] 27 (0, 0)), (w.heap.size + 1 + 1 + 1, .cells #[] 22 (0, 0)), (w.heap.size + 1 + 1, .cells #[.bool false] 4 (0, 0)), (w.heap.size + 1, .cells #[.slice none 0 0] 27 (0, 0)), (w.heap.size, .cells #[.slice A0 pts.length c0, .slice A1 es.length c1] 25 (0, 0))] V := by
  rw [← hV]; exact ((((((Blks.nil w).alloc _).alloc_at _ (by simp)).alloc_at _ (by simp)).alloc_at _ (by simp)).alloc_at _ (by simp)).alloc_at _ (by simp)
 clear hV
 have hit := contours_it V (w.heap.size + 1 + 1 + 1 + 1 + 1) A0 A1 c0 c1 pts es (hB.blk 0 rfl) (Kd.C_below hp hbw) (Kd.C_below hes hbw) hc0 hlim
 refine range_outer hit (by rfl) (fun args w => by simp [go_sem])
  (fun k own V' => own (w.heap.size + 1 + 1 + 1 + 1) ∧ (∀ b, own b → w.heap.size + 1 + 1 + 1 ≤ b ∧ b ≠ w.heap.size + 1 + 1 + 1 + 1 + 1) ∧ (∃ v, Blks [(w.heap.size + 1 + 1 + 1 + 1, .cells #[v] 27 (0, 0)), (w.heap.size + 1 + 1, .cells #[.bool false] 4 (0, 0)), (w.heap.size + 1, .cells #[.slice none 0 0] 27 (0, 0))] V' ∧
    Kd.S (Kd.slice 33 k33) 22 V' w.heap.size (fun b => own b ∧ b ≠ w.heap.size + 1 + 1 + 1 + 1) v (toldK pts es k)) ∧ Below w.heap.size w V' ∧ V.heap.size ≤ V'.heap.size)
  (fun c k own V' => False)
  (fun b => b = w.heap.size + 1 + 1 + 1 + 1 ∨ b = w.heap.size + 1 + 1 + 1) ?_ ?_ ?_ ?_ ?_
  (fun k own a' V' => ∃ (c : Int × Int) (g cap : Nat) (own0 : Nat → Prop) (v : Value), (cutsL es pts.length)[k]? = some c ∧ a' = ⟨#[.agg #[.slice A0 pts.length c0, .slice A1 es.length c1], .pointer (some ⟨w.heap.size, 0, none⟩), .pointer (some ⟨w.heap.size + 1, 0, none⟩), .pointer (some ⟨w.heap.size + 1 + 1, 0, none⟩), .pointer (some ⟨w.heap.size + 1 + 1 + 1 + 1, 0, none⟩), .func (.func 54) #[] #[.pointer (some ⟨w.heap.size + 1 + 1 + 1 + 1 + 1, 0, none⟩)], .int .i64 k, .slice (some ⟨g, 0, none⟩) (contourOf pts c).length cap, .slice (some ⟨w.heap.size + 1 + 1 + 1, 0, none⟩) 0 0, .agg #[.slice A0 pts.length c0, .slice A1 es.length c1], .func (.func 54) #[] #[.pointer (some ⟨w.heap.size + 1 + 1 + 1 + 1 + 1, 0, none⟩)], .func (.func 54) #[] #[.pointer (some ⟨w.heap.size + 1 + 1 + 1 + 1 + 1, 0, none⟩)], .bool false, undef, .func (.func 54) #[] #[.pointer (some ⟨w.heap.size + 1 + 1 + 1 + 1 + 1, 0, none⟩)], .int .i64 k, .slice (some ⟨g, 0, none⟩) (contourOf pts c).length cap, undef, undef, undef, undef, undef, undef, undef, undef, undef, undef], []⟩ ∧ (∀ b, own0 b → own b) ∧ own g ∧ ¬ own0 g ∧ g ≠ w.heap.size + 1 + 1 + 1 + 1 ∧
   Blks [(w.heap.size + 1 + 1 + 1 + 1, .cells #[v] 27 (0, 0)), (w.heap.size + 1 + 1, .cells #[.bool false] 4 (0, 0)), (w.heap.size + 1, .cells #[.slice none 0 0] 27 (0, 0))] V' ∧
   Kd.S (Kd.slice 33 k33) 22 V' w.heap.size (fun b => own0 b ∧ b ≠ w.heap.size + 1 + 1 + 1 + 1) v (toldK pts es k) ∧
   Kd.R k33 33 V' w.heap.size (Own1 (.slice (some ⟨g, 0, none⟩) (contourOf pts c).length cap)) (.slice (some ⟨g, 0, none⟩) (contourOf pts c).length cap) (contourOf pts c)) ?_ ?_ ?_ ?_ ?_
 ·
  rintro k own Va Vb ⟨h1, h2, ⟨v, h3, h4⟩, h5, h6⟩ hc
  refine ⟨h1, h2, ⟨v, h3.chg hc ?_, S_chg h4 hc (fun k hk hs => hs.2 hk.1)⟩, h5.trans (hc.below (Nat.le_trans (by omega) h5.size) (fun i hi h => by omega)), Nat.le_trans h6 hc.size⟩
  intro b hb hs
  simp at hb
  rcases hb with rfl | rfl | rfl
  ·
   exact hs.2 h1
  ·
   omega
  ·
   omega
 ·
  rintro c k own V1 V2 h hc
  exact h
 ·
  rintro k W args ⟨c, A, cap, _, rfl, _⟩
  rfl
 ·
  rintro b hb
  refine ⟨by omega, fun hr => ?_⟩
  rcases hr with ⟨h0, ad, rfl, hr⟩ | ⟨h0, ad, rfl, hr⟩ | hr
  ·
   obtain ⟨ad', e, hx, _⟩ := at_T33 hp 0 (by omega) (by omega)
   cases e
   have := World.block_lt_of_cell? w _ hx
   rw [add_block] at this
   omega
  ·
   obtain ⟨ad', e, hx⟩ := Kd.at_int hes 0 (by omega) (by omega)
   cases e
   have := World.block_lt_of_cell? w _ hx
   rw [add_block] at this
   omega
  ·
   omega
 ·
  exact ⟨.inl rfl, fun b hb => by omega, ⟨_, (hB.tail).sub (by simp), S_empty _ (hB.blk 2 rfl) (by omega) ⟨.inr rfl, by omega⟩⟩, hbw, Nat.le_refl _⟩
 ·
  rintro lc k own a' Va o o' hlc ⟨c, g, cap, own0, v, q1, q2, q3, q4, q5, q6, q7, q8, q9⟩ ho hcells
  exact ⟨c, g, cap, own0, v, q1, q2, q3, q4, q5, q6, q7.put_ (by simp [Obj.isCells]) ho hcells, S_put q8 ho hcells, R_put q9 ho hcells⟩
 ·
  rintro lc n k own args Va hlc ⟨h1, h2, ⟨v, h3, h4⟩, h5, h6⟩ how hlt hno hk ⟨c, A, cap, hkc, rfl, hcap, hC, hR⟩ hGo
  obtain ⟨m1, m2, m3⟩ := cutsF_mem es pts.length 0 k c hkc
  obtain ⟨g, cap', e1, hg1, hg2, _⟩ := Kd.R_form hR (by simp [contourOf]; omega)
  injection e1 with e1 e2 e3
  subst e1; subst e3
  clear e2
  have hog : ¬ own g := hGo g ⟨_, _, _, _, rfl, rfl⟩
  generalize hQ : Exit.then _ _ = Q0
  gi_wp2
  subst hQ
  show ∃ own', _
  refine ⟨fun b => own b ∨ b = g, ⟨fun _ h => .inl h, fun b h => h.elim .inl (fun e => .inr (.inr ⟨_, _, _, _, rfl, e⟩))⟩, fun b hb => hb.elim (how b) (fun e => by omega), Chg.refl _ _, ⟨.inl h1, fun b hb => hb.elim (h2 b) (fun e => by omega), ⟨v, h3, Kd.S_mono h4 (fun b hb => ⟨.inl hb.1, hb.2⟩)⟩, h5, h6⟩, c, g, cap, own, v, hkc, rfl, fun b hb => .inl hb, .inr rfl, hog, by omega, h3, h4, Kd.R_lower hR (by omega)⟩
 ·
  rintro lc n k own a' Va hlc ⟨h1, h2, _, h5, h6⟩ how ⟨rl, hrl⟩ hno hk ⟨c, g, cap, own0, v, q1, rfl, q3, q4, q5, q6, q7, q8, q9⟩
  have hlk := toldK_len pts es k (by omega)
  obtain ⟨Av, cv, rfl⟩ := Kd.S_slice q8
  rw [hlk] at q7 q8
  have hne : (((k : Nat) : Int) != ((k : Nat) : Int)) = false := by simp
  have g0 := q7.cell 0 rfl 0
  have g1 := q7.free 0 rfl 0
  simp at g0
  have hsc : (contourOf pts c).length ≤ 1000000 := by simp [contourOf]; omega
  have hbx : ∀ j u, ([.slice (some ⟨g, 0, none⟩) (contourOf pts c).length cap] : List Value)[j]? = some u → (Va.alloc (.cells #[.slice (some ⟨g, 0, none⟩) (contourOf pts c).length cap] 22)).cell? ((⟨Va.heap.size, 0, none⟩ : Addr).add j) = some u := by
   intro j u hj
   rw [add_plain, ((Blks.nil Va).alloc _).cell 0 rfl j]
   simpa using hj
  have hVa := Chg.alloc (S := fun _ => False) (Chg.refl _ Va) (.cells #[.slice (some ⟨g, 0, none⟩) (contourOf pts c).length cap] 22)
  have hown0 : ∀ k', (Value.slice Av k cv).ownBlock = some k' → own0 k' := fun k' h => by
   obtain ⟨_, hr⟩ := q8
   exact (hr.1 k' h).1
  have hVas : (Va.alloc (.cells #[.slice (some ⟨g, 0, none⟩) (contourOf pts c).length cap] 22)).heap.size = Va.heap.size + 1 := by simp
  have hVa6 := h6
  obtain ⟨v1, w1, hrun, hS1, hg1, hat⟩ := run_appendS (P := Try.prog) (Kd.slice 33 k33) (ty := 27) w.heap.size Try.underlying27 told_info rfl (by decide) (by decide) (.slice Av k cv) (toldK pts es k) (contourOf pts c) [.slice (some ⟨g, 0, none⟩) (contourOf pts c).length cap]
   (fun b => (own b ∧ b ≠ w.heap.size + 1 + 1 + 1 + 1) ∨ Va.heap.size ≤ b) (fun b => b = g) ⟨Va.heap.size, 0, none⟩ 1 hbx
   ⟨_, rfl, Kd.R_mono (R_chg q9 hVa (fun _ _ => id)) (fun k' hk' => by simp [Own1, Value.ownBlock] at hk'; exact hk')⟩
   (fun k' hk' => by subst hk'; exact ⟨.inl ⟨q4, q6⟩, fun h => q5 (hown0 _ h.symm)⟩)
   (fun k' hk' => .inr (by rw [hVas] at hk'; omega))
   (Kd.S_mono (S_chg q8 hVa (fun _ _ => id)) (fun k' hk' => ⟨.inl ⟨q3 _ hk'.1, hk'.2⟩, fun e => by subst e; exact q5 hk'.1⟩))
   (by rw [hVas]; omega) (by rw [hlk]; have := told_cuts_len es pts.length 0; unfold cutsL at hk; omega)
  have hb1 := (q7.alloc (.cells #[.slice (some ⟨g, 0, none⟩) (contourOf pts c).length cap] 22)).tail.chg (Chg.of_grownBy hg1) (fun b hb e => by
   have := hown0 b e
   have hle := h2 b (q3 _ this)
   simp at hb
   have h8 : b ≠ w.heap.size + 1 + 1 + 1 + 1 := by
    obtain ⟨_, hr⟩ := q8
    exact (hr.1 b e).2
   omega)
  have g2 := hb1.cell 0 rfl 0
  have g3 := hb1.free 0 rfl 0
  simp at g2
  have hsz1 := hg1.size
  rw [hVas] at hsz1
  obtain ⟨Av1, cv1, hv1⟩ := Kd.S_slice hS1
  obtain ⟨N1, hN1⟩ : ∃ N, (toldK pts es k ++ [contourOf pts c]).length = N := ⟨_, rfl⟩
  rw [hN1] at hv1
  subst hv1
  clear hN1
  have hnext : toldK pts es (k + 1) = toldK pts es k ++ [contourOf pts c] := by simp [toldK, List.take_add_one, q1]
  rw [← hnext] at hS1
  have hC1 : Chg own Va w1 := ((hVa.mono (fun _ _ h => h.elim)).trans ((Chg.of_grownBy hg1).mono (fun b _ e => q3 _ (hown0 b e))))
  have HQ := Lib.hid (And.intro h2 (And.intro h5 (And.intro hS1 (And.intro hb1 (And.intro hC1 hsz1)))))
  clear h2 h5 q8 q9 q7 hlk hS1 hb1 hC1 hsz1 hnext hVas hown0 hbx hsc
  generalize hQ : roundQ _ _ _ _ _ = Q0
  gi_wp2_with (refine app_listIn rfl rfl rfl rfl hrun ?_)
  subst hQ
  obtain ⟨h2, h5, hS1, hb1, hC1, hsz1⟩ := HQ.out
  have hC2 : Chg own Va (w1.setCell ⟨w.heap.size + 1 + 1 + 1 + 1, 0, none⟩ (.slice Av1 N1 cv1)) := hC1.setCell (p := ⟨w.heap.size + 1 + 1 + 1 + 1, 0, none⟩) (fun _ => h1) _
  have hsz2 : (w1.setCell ⟨w.heap.size + 1 + 1 + 1 + 1, 0, none⟩ (.slice Av1 N1 cv1)).heap.size = w1.heap.size := by simp [World.setCell]
  have hS2 := S_chg (Kd.S_bound hS1) (Chg.setCell (S := fun b => b = w.heap.size + 1 + 1 + 1 + 1) (Chg.refl _ w1) (p := ⟨w.heap.size + 1 + 1 + 1 + 1, 0, none⟩) (fun _ => rfl) (.slice Av1 N1 cv1)) (fun b hb e => by
   subst e
   rcases hb.1 with h | h
   ·
    exact h.2 rfl
   ·
    omega)
  refine ⟨fun b => own b ∨ (Va.heap.size ≤ b ∧ b < w1.heap.size), ⟨fun b h => .inl h, fun b h => h.elim .inl (fun h => .inr h.1)⟩, fun b hb => by rw [hsz2]; exact hb.elim (fun h => by have := how b h; omega) (fun h => h.2), hC2, .inl h1, fun b hb => hb.elim (h2 b) (fun h => by omega), ⟨_, hb1.set 0 rfl 0 _, Kd.S_mono hS2 (fun b hb => ?_)⟩, h5.trans (hC2.below (B := w.heap.size) h5.size (fun i hi h => by have := h2 i h; omega)), by rw [hsz2]; omega⟩
  rcases hb.1 with h | h
  ·
   exact ⟨.inl h.1, h.2⟩
  ·
   exact ⟨.inr ⟨h, hb.2.2.1⟩, by omega⟩
 ·
  rintro D own Va hD how hnD ⟨h1, h2, ⟨v, h3, h4⟩, h5, h6⟩ hdef
  obtain ⟨Av, cv, rfl⟩ := Kd.S_slice h4
  have g0 := h3.cell 0 rfl 0
  have g1 := h3.cell 1 rfl 0
  have g2 := h3.cell 2 rfl 0
  have f1 := h3.free 1 rfl 0
  have f2 := h3.free 2 rfl 0
  simp at g0 g1 g2
  have HH := Lib.hid (And.intro h3 (And.intro h4 (And.intro h5 h6)))
  clear h3 h4 h5
  gi_wp2
  obtain ⟨h3, h4, h5, _⟩ := HH.out
  generalize hvv : Value.slice Av (toldK pts es (cutsL es pts.length).length).length cv = vv at *
  have hd1 : Chg (fun b => b = w.heap.size + 1 ∨ b = w.heap.size + 1 + 1) Va ((Va.setCell ⟨w.heap.size + 1, 0, none⟩ vv).setCell ⟨w.heap.size + 1 + 1, 0, none⟩ (.bool true)) := ((Chg.refl (fun b => b = w.heap.size + 1 ∨ b = w.heap.size + 1 + 1) Va).setCell (p := ⟨w.heap.size + 1, 0, none⟩) (fun _ => .inl rfl) _).setCell (p := ⟨w.heap.size + 1 + 1, 0, none⟩) (fun _ => .inr rfl) _
  have hB9 := (h3.set 2 rfl 0 vv).set 1 rfl 0 (.bool true)
  have hS9 := S_chg h4 hd1 (fun k hk e => by have := h2 k hk.1; omega)
  have hW9 : Below w.heap.size w _ := h5.trans (hd1.below (B := w.heap.size) h5.size (fun i hi e => by omega))
  refine leaves_collected (hd1.heap hdef (fun e => by omega)) fun V2 hc => ?_
  have hB10 := hB9.chg hc (fun b hb e => by simp at hb; omega)
  have hS10 := S_chg hS9 hc (fun k hk e => hnD (by subst e; exact hk.1))
  have hW10 := hW9.trans (hc.below (B := w.heap.size) hW9.size (fun i hi e => by omega))
  have g0 := hB10.cell 2 rfl 0
  have g1 := hB10.cell 1 rfl 0
  simp at g0 g1
  subst hvv
  exact ⟨.tuple #[.slice Av (toldK pts es (cutsL es pts.length).length).length cv, .bool true], by simp [results, Try.f16, go_sem, g0, g1], _, rfl, Kd.S_mono hS10 (fun _ _ => trivial), hW10⟩
 ·
  rintro D c k own V1 _ _ _ _ h
  exact h.elim
def fleuronlaw03_told.f (l0_0 : List S33) (l0_1 : List Int) : Option (List (List S33) × Bool) :=
 if l0_0.length ≤ 1000000 ∧ l0_1.length ≤ 1000000 then some (toldK l0_0 l0_1 (cutsL l0_1 l0_0.length).length, true) else none
theorem fleuronlaw03_told.calls (A0_0 : Option Addr) (c0_0 : Nat) (l0_0 : List (S33)) (A0_1 : Option Addr) (c0_1 : Nat) (l0_1 : List Int) (r1 : List (List (S33))) (r2 : Bool) (w : World) (hr0_0 : Kd.C k33 w A0_0 l0_0.length l0_0) (hc0_0 : l0_0.length ≤ c0_0) (hr0_1 : Kd.C (Kd.int .i64) w A0_1 l0_1.length l0_1) (hc0_1 : l0_1.length ≤ c0_1) (h : fleuronlaw03_told.f l0_0 l0_1 = some (r1, r2)) :
  Calls Try.prog 16 #[.agg #[.slice A0_0 l0_0.length c0_0, .slice A0_1 l0_1.length c0_1]] w fun e w' => ∃ v0_ : Value, e = .returned (.tuple #[v0_, .bool r2]) ∧ Kd.S (Kd.slice 33 k33) 22 w' w.heap.size (fun _ => True) v0_ r1 ∧ Below w.heap.size w w' := by
 unfold fleuronlaw03_told.f at h
 split at h
 ·
  rename_i hl
  simp only [Option.some.injEq, Prod.mk.injEq] at h
  obtain ⟨rfl, rfl⟩ := h
  exact told_calls A0_0 A0_1 c0_0 c0_1 l0_0 l0_1 w hr0_0 hc0_0 hr0_1 hc0_1 hl.1 hl.2
 ·
  cases h
end Go.Proofs.Ytbmklpcheopgoaa.H

namespace Go.Proofs.Ytbmklpcheopgoaa.H
open Go.RowKit Go.Proofs.YtbmklpcheopgoaaW.PrintWords Go.Proofs.YtbmklpcheopgoaaW.PrintLast Go.Proofs.YtbmklpcheopgoaaW.PrintMore
attribute [local go_sem] max2_int min2_int max_two min_two max_three min_three max_four min_four
set_option linter.unusedVariables false
set_option linter.unusedSimpArgs false
open Go.Proofs.YtbmklpcheopgoaaOps Go.Proofs.YtbmklpcheopgoaaIt Go.Proofs.YtbmklpcheopgoaaBlks Go.Proofs.YtbmklpcheopgoaaFlat Go.Shelf
attribute [local go_sem] Oper.semAt_some wide_depth wide_fn World.cell?_alloc_some
theorem flat_pt : Flat k33 := fun _ _ _ _ _ _ _ _ h => by rw [k33_openM h]; exact k33_mkM _ _ _ _
theorem info_pt : (Try.prog.info? 33).map (·.size) = some (Kd.sz k33) := by kernel_rfl
def swapAt (l : List S33) (a b : Nat) : List S33 := (l.set a (rd_T33 l (b : Nat))).set b (rd_T33 l (a : Nat))
def revK (l : List S33) (s t : Nat) (m : Nat) : List S33 := (List.range m).foldl (fun l j => swapAt l (s + (1 + j)) (s + (t - s - 1 - j))) l
def revC (l : List S33) (c : Int × Int) : List S33 := revK l c.1.toNat c.2.toNat ((c.2.toNat - c.1.toNat - 1) / 2)
def revL (pts : List S33) (es : List Int) (k : Nat) : List S33 := ((cutsL es pts.length).take k).foldl revC pts
theorem revK_succ (l : List S33) (s t m : Nat) : revK l s t (m + 1) = swapAt (revK l s t m) (s + (1 + m)) (s + (t - s - 1 - m)) := by simp [revK, List.range_succ]
theorem swapAt_len (l : List S33) (a b : Nat) : (swapAt l a b).length = l.length := by simp [swapAt]
theorem revK_len (l : List S33) (s t m : Nat) : (revK l s t m).length = l.length := by
 induction m with
 | zero => simp [revK]
 | succ m ih => rw [revK_succ, swapAt_len, ih]
theorem revL_len (pts : List S33) (es : List Int) (k : Nat) : (revL pts es k).length = pts.length := by
 unfold revL
 generalize (cutsL es pts.length).take k = cs
 suffices h : ∀ (cs : List (Int × Int)) (l : List S33), (cs.foldl revC l).length = l.length from h cs pts
 intro cs
 induction cs with
 | nil => intro l; rfl
 | cons c cs ih => intro l; rw [List.foldl_cons, ih]; exact revK_len _ _ _ _
theorem run_indexAddr_pt {o : Oper} {ρ : Operand → Value} {x y : Operand} {W : World} {g s n c i : Nat} {j : Nat} (ho : o.op = .indexAddr 22 x y) (hx : ρ x = .slice (some ⟨g, s * 3, none⟩) n c) (hy : ρ y = .int .i64 (i : Int)) (hi : i < n) (hj : j = s + i) :
  (execOp ρ o).run Try.prog W = .ok (.value (.pointer (some ⟨g, j * 3, none⟩))) W := by
 subst hj
 have hu := Try.underlying22
 have e : (s + i) * 3 = s * 3 + i * 3 := by omega
 unfold execOp
 simp only [ho, hx, hy]
 simp [go_sem, hu, hi, e]
theorem run_load_pt {o : Oper} {ρ : Operand → Value} {x : Operand} {W : World} {g q : Nat} {p : S33} (ho : o.op = .load 33 x) (hx : ρ x = .pointer (some ⟨g, q * 3, none⟩)) (h0 : W.cell? ⟨g, q * 3 + 0, none⟩ = some (.int .i64 p.f0)) (h1 : W.cell? ⟨g, q * 3 + 1, none⟩ = some (.int .i64 p.f1)) (h2 : W.cell? ⟨g, q * 3 + 2, none⟩ = some (.bool p.f2)) :
  (execOp ρ o).run Try.prog W = .ok (.value (.agg #[.int .i64 p.f0, .int .i64 p.f1, .bool p.f2])) W := by
 have hu := Try.underlying33
 unfold execOp
 simp only [ho, hx]
 rw [Nat.add_zero] at h0
 simp [go_sem, hu, h0, h1, h2]
set_option maxRecDepth 100000 in
set_option maxHeartbeats 4000000 in
theorem reversed_calls (A0 A1 : Option Addr) (c0 c1 : Nat) (pts : List S33) (es : List Int) (w : World) (hp : Kd.C k33 w A0 pts.length pts) (hc0 : pts.length ≤ c0) (hes : (Kd.int .i64).C w A1 es.length es) (hc1 : es.length ≤ c1) (hlim : pts.length ≤ 1000000) (hlime : es.length ≤ 1000000) :
  Calls Try.prog 29 #[.agg #[.slice A0 pts.length c0, .slice A1 es.length c1]] w fun e w' => ∃ v0 v1 : Value, e = .returned (.agg #[v0, v1]) ∧ Kd.R k33 33 w' w.heap.size (fun _ => True) v0 (revL pts es (cutsL es pts.length).length) ∧ Kd.R (Kd.int .i64) 3 w' w.heap.size (fun _ => True) v1 es ∧ Below w.heap.size w w' := by
 have hu := Try.underlying25
 have hu2 := Try.underlying33
 have hcl : outline_clone.f pts es = some (pts, es) := by
  unfold outline_clone.f
  rw [if_pos (by simp; omega), if_pos (by simp; omega)]
  simp
 refine (callsIn_wide (n := 0)).1 (callsIn_of_wp_marks Try.func29 rfl trivial ?_ rfl)
 simp only [Try.ntmps29, List.size_toArray, List.length_cons, List.length_nil, Nat.reduceAdd, Nat.reduceSub, Array.replicate_succ, Array.replicate_zero, List.push_toArray, List.append_toArray, List.nil_append, List.cons_append]
 gi_wp2
 generalize hV0 : World.alloc (World.alloc w _) _ = V0
 have hbV0 : Below w.heap.size w V0 := by rw [← hV0]; exact ((Below.refl _ w).alloc (Nat.le_refl _) _).alloc (by simp) _
 have hB0 : Blks [(w.heap.size + 1, .cells #[.slice none 0 0, .slice none 0 0] 25 (0, 0)), (w.heap.size, .cells #[.slice A0 pts.length c0, .slice A1 es.length c1] 25 (0, 0))] V0 := by rw [← hV0]; exact ((Blks.nil w).alloc _).alloc_at _ (by simp)
 have hs0 : V0.heap.size = w.heap.size + 1 + 1 := by rw [← hV0]; simp
 clear hV0
 refine CallsIn.mono (callsIn_wide.2 (outline_clone.calls A0 c0 pts A1 c1 es pts es V0 (Kd.C_below hp hbV0) hc0 (Kd.C_below hes hbV0) hc1 hcl)) ?_
 rintro e V1 ⟨v0, v1, rfl, hR0, hR1, hbV1⟩
 obtain ⟨Ap, cp, rfl⟩ := Kd.R_slice hR0
 obtain ⟨Ae, ce, rfl⟩ := Kd.R_slice hR1
 gi_wp2
 have hE1 := R_own1 (flat_int .i64) hR1
 have hP1 := R_own1 flat_pt hR0
 obtain ⟨vp, hvp⟩ : ∃ vp : Value, vp = .slice Ap pts.length cp := ⟨_, rfl⟩
 obtain ⟨ve, hve⟩ : ∃ ve : Value, ve = .slice Ae es.length ce := ⟨_, rfl⟩
 have hpk : ∀ k, vp.ownBlock = some k → V0.heap.size ≤ k ∧ k < V1.heap.size ∧ ∃ cells, V1.heap[k]? = some (.cells cells 33 (0, 0)) := by
  intro k hk; rw [hvp] at hk
  obtain ⟨_, inner, ho, _⟩ := hR0
  exact ⟨own_base ho k hk, own_lt ho k hk, own_typed ho k hk⟩
 have hek : ∀ k, ve.ownBlock = some k → V0.heap.size ≤ k ∧ k < V1.heap.size ∧ ∃ cells, V1.heap[k]? = some (.cells cells 3 (0, 0)) := by
  intro k hk; rw [hve] at hk
  obtain ⟨_, inner, ho, _⟩ := hR1
  exact ⟨own_base ho k hk, own_lt ho k hk, own_typed ho k hk⟩
 have hne : ∀ k, vp.ownBlock = some k → ve.ownBlock = some k → False := by
  intro k h1 h2
  obtain ⟨_, _, cs1, e1⟩ := hpk k h1
  obtain ⟨_, _, cs2, e2⟩ := hek k h2
  rw [e1] at e2; injection e2 with e2; injection e2 with _ e2; cases e2
 have hB1 := (hB0.below hbV1).alloc (.cells #[.slice Ap pts.length cp, .slice Ae es.length ce] 25)
 refine CallsIn.mono (cuts_calls 0 _ _ _ _ _) ?_
 rintro e w' ⟨rfl, rfl⟩
 gi_wp2
 generalize hV : World.alloc (World.alloc (World.alloc V1 _) _) _ = V
 have hVs : V.heap.size = V1.heap.size + 1 + 1 + 1 := by rw [← hV]; simp
 have hbV : Below V1.heap.size V1 V := by rw [← hV]; exact (((Below.refl _ V1).alloc (Nat.le_refl _) _).alloc (by simp) _).alloc (by simp; omega) _
 have hB2 : Blks [(V1.heap.size + 1 + 1, .cells #[.int .i64 pts.length] 3 (0, 0)), (V1.heap.size + 1, .cells #[.slice Ae es.length ce] 23 (0, 0)), (V1.heap.size, .cells #[.slice Ap pts.length cp, .slice Ae es.length ce] 25 (0, 0)), (w.heap.size + 1, .cells #[.slice none 0 0, .slice none 0 0] 25 (0, 0)), (w.heap.size, .cells #[.slice A0 pts.length c0, .slice A1 es.length c1] 25 (0, 0))] V := by
  rw [← hV]; exact (hB1.alloc_at _ (by simp)).alloc_at _ (by simp)
 have hbw : Below w.heap.size w V := (hbV0.trans (hbV1.mono (by omega))).trans (hbV.mono (by have := hbV1.size; omega))
 have hVV := hbV1.size
 have hPV := R_chg hP1 (Chg.of_fresh (S := fun _ => False) hbV) (fun _ _ => id)
 have hEV := R_chg hE1 (Chg.of_fresh (S := fun _ => False) hbV) (fun _ _ => id)
 have hit := cuts_it V Ae ce es pts.length (by omega) (V1.heap.size + 1) (V1.heap.size + 1 + 1) (hB2.cell 1 rfl 0) (hB2.cell 0 rfl 0) (Kd.R_reads' hEV).2.2
 have HV := Lib.hid hV
 clear hV hB1 hB0 hP1 hE1 hR0 hR1 hcl
 refine range_outer hit (by rfl) (fun args w => by simp [go_sem])
  (fun k own V' => (∀ b, own b ↔ Own1 vp b) ∧ Kd.R k33 33 V' V0.heap.size (Own1 vp) vp (revL pts es k) ∧ Kd.R (Kd.int .i64) 3 V' V0.heap.size (Own1 ve) ve es ∧ Blks [(V1.heap.size, .cells #[vp, ve] 25 (0, 0)), (w.heap.size + 1, .cells #[.slice none 0 0, .slice none 0 0] 25 (0, 0))] V' ∧ Below w.heap.size w V' ∧ V.heap.size ≤ V'.heap.size)
  (fun c k own V' => False)
  (Own1 vp) ?_ ?_ ?_ ?_ ?_
  (fun k own a' V' => ∃ (c : Int × Int) (X : Nat), (cutsL es pts.length)[k]? = some c ∧ a' = ⟨#[.agg #[.slice A0 pts.length c0, .slice A1 es.length c1], .pointer (some ⟨w.heap.size, 0, none⟩), .pointer (some ⟨w.heap.size + 1, 0, none⟩), .pointer (some ⟨V1.heap.size, 0, none⟩), undef, .pointer (some ⟨X, 0, none⟩), undef, undef, undef, .agg #[.slice A0 pts.length c0, .slice A1 es.length c1], .agg #[.slice Ap pts.length cp, .slice Ae es.length ce], .pointer (some ⟨V1.heap.size, 1, none⟩), .slice Ae es.length ce, .pointer (some ⟨V1.heap.size, 0, none⟩), .slice Ap pts.length cp, .int .i64 pts.length, .func (.func 55) #[] #[.pointer (some ⟨V1.heap.size + 1, 0, none⟩), .pointer (some ⟨V1.heap.size + 1 + 1, 0, none⟩)], .int .i64 k, .agg #[.int .i64 c.1, .int .i64 c.2], undef, undef, undef, undef, undef, undef, undef, undef, undef, undef, undef, undef, undef, undef, undef, undef, undef, undef, undef, undef, undef, undef, undef, undef, undef, undef, undef, undef, undef, undef, undef, undef, undef, undef], []⟩ ∧ V.heap.size ≤ X ∧ Blks [(X, .cells #[.int .i64 c.1, .int .i64 c.2] 64 (0, 0))] V') ?_ ?_ ?_ ?_ ?_
 ·
  rintro k own Va Vb ⟨h1, h2, h3, h4, h5, h6⟩ hc
  refine ⟨h1, R_chg h2 hc (fun k hk hs => hs.2 ((h1 k).2 hk.symm)), R_chg h3 hc (fun k hk hs => by have := (hek k hk).2.1; omega), h4.chg hc ?_, h5.trans (hc.below (Nat.le_trans (by omega) h5.size) (fun i hi h => by omega)), Nat.le_trans h6 hc.size⟩
  intro b hb hs
  simp at hb
  omega
 ·
  rintro c k own V1 V2 h hc
  exact h
 ·
  rintro k W args ⟨c, _, rfl⟩
  rfl
 ·
  rintro b hb
  obtain ⟨q1, q2, _⟩ := hpk b hb.symm
  refine ⟨by omega, fun hr => ?_⟩
  rcases hr with ⟨h0, ad, hA, hr⟩ | hr | hr
  ·
   obtain ⟨g, cap, e1, _⟩ := Kd.R_form hEV (by omega)
   rw [e1] at hve
   subst hA
   have e2 : ad = ⟨g, 0, none⟩ := by injection e1 with e1; injection e1 with e1
   subst e2
   exact hne b hb.symm (by rw [hve]; simp [Value.ownBlock]; exact hr.symm)
  ·
   omega
  ·
   omega
 ·
  subst hvp; subst hve
  exact ⟨fun b => Iff.rfl, by simpa [revL] using hPV, hEV, (hB2.tail).tail.sub (by simp), hbw, Nat.le_refl _⟩
 ·
  rintro lc k own a' Va o o' hlc ⟨c, X, hk, ha, hX, hB⟩ ho hcells
  refine ⟨c, X, hk, ha, hX, hB.chg (Chg.putSelf _ lc o') ?_⟩
  intro b hb e
  simp at hb
  subst hb; subst e
  have := hB.blk 0 rfl
  rw [this] at ho
  cases ho
  cases hcells
 ·
  rintro lc n k own args Va hlc ⟨h1, h2, h3, h4, h5, h6⟩ how hlt hno hk ⟨c, hkc, rfl⟩ _
  gi_wp2
  refine ⟨own, GrowG.refl _ _ _, fun b hb => Nat.lt_of_lt_of_le (how b hb) (by simp), (Chg.refl _ _).alloc _, ⟨h1, R_chg h2 ((Chg.refl (fun _ => False) _).alloc _) (fun _ _ => id), R_chg h3 ((Chg.refl (fun _ => False) _).alloc _) (fun _ _ => id), (h4.alloc _).tail, h5.alloc h5.size _, by simp; omega⟩, c, Va.heap.size, hkc, rfl, h6, (Blks.nil _).alloc _⟩
 ·
  rintro lc n k own a' Va hlc ⟨h1, h2, h3, h4, h5, h6⟩ how ⟨rl, hrl⟩ hno hk ⟨c, X, hkc, rfl, hX, hBX⟩
  obtain ⟨m1, m2, m3⟩ := cutsF_mem es pts.length 0 k c hkc
  have hnext : revL pts es (k + 1) = revC (revL pts es k) c := by simp [revL, List.take_add_one, hkc]
  obtain ⟨s, hs⟩ : ∃ s : Nat, c.1 = s := ⟨c.1.toNat, by omega⟩
  obtain ⟨t, ht⟩ : ∃ t : Nat, c.2 = t := ⟨c.2.toNat, by omega⟩
  have hlen := revL_len pts es k
  have hcp := (Kd.R_reads' (by rw [hvp] at h2; exact h2)).2.1
  obtain ⟨g, cap, e1, hg1, hg2, _⟩ := Kd.R_form h2 (by omega)
  rw [hvp] at e1
  injection e1 with e1 e2 e3
  subst e1; subst e3
  simp only [revC, hs, ht, Int.toNat_natCast] at hnext
  rw [hs, ht] at hBX m2
  rw [ht] at m3
  rw [hs, ht]
  have hNX := Lib.hid hnext
  clear hnext hs ht m1 hkc e2
  generalize hl0 : revL pts es k = l0 at *
  have HL0 := Lib.hid hl0
  clear hl0
  have hst : s < t := by omega
  have htn : t ≤ pts.length := by omega
  have hus := Try.underlying22
  have hse : s ≤ t := by omega
  have hec : t ≤ cp := by omega
  have hsc : ¬ (t = s) := by omega
  have hsc2 : ¬ (t - s = 0) := by omega
  subst hvp
  have g0 := h4.cell 0 rfl 0
  have g1 := h4.cell 0 rfl 1
  have g2 := hBX.cell 0 rfl 0
  have g3 := hBX.cell 0 rfl 1
  simp at g0 g1 g2 g3
  have hgX : ¬ own X := fun h => by have := hpk X ((h1 X).1 h).symm; omega
  have HH := Lib.hid (And.intro h2 (And.intro h3 (And.intro h4 h5)))
  have HOWN := Lib.hid h1
  clear h1 h3 h4 h5 m2 m3
  gi_wp2
  gi_loopw [7, 8] (fun v7 v8 wr => ∃ m : Nat, m ≤ (t - s - 1) / 2 ∧ v7 = .int .i64 ((1 + m : Nat) : Int) ∧ v8 = .int .i64 ((t - s - 1 - m : Nat) : Int) ∧ Aside0 (Kd.R k33 33 wr V0.heap.size (Own1 (.slice (some ⟨g, 0, none⟩) pts.length cp)) (.slice (some ⟨g, 0, none⟩) pts.length cp) (revK l0 s t m) ∧ Chg (fun i => i = g) Va wr))
   (fun _ v8 _ => (intOf v8).toNat)
  case atStart => exact ⟨0, by omega, rfl, by congr 1; omega, ⟨h2, Chg.refl _ _⟩⟩
  case round =>
   obtain ⟨m, hm, rfl, rfl, ⟨HR, HC⟩⟩ := hrel
   have hlr := revK_len l0 s t m
   by_cases hlt : 1 + m < t - s - 1 - m
   ·
    have hd : decide (1 + (m : Int) < ((t - s - 1 - m : Nat) : Int)) = true := by simp; omega
    have HKS := Lib.hid (revK_succ l0 s t m)
    generalize hl : revK l0 s t m = l at *
    have HLL := Lib.hid hl
    clear hl
    have HHR := Lib.hid HR
    have HHC := Lib.hid HC
    clear HR HC
    gi_wp2
    have HR := HHR.out
    have HC := HHC.out
    clear HHR HHC
    refine Go.Proofs.YtbmklpcheopgoaaReg.regIn_inv (by rfl) [0, 1, 2, 3, 4, 5, 6, 7, 8, 9, 10, 11, 12, 13, 14, 15] (by kernel_rfl) (by kernel_rfl)
     (fun lst a W' => ∃ (b0 b1 b2 b3 b4 b5 b6 b7 b8 b9 b10 b11 b12 b13 b14 b15 : Bool), lst = #[b0, b1, b2, b3, b4, b5, b6, b7, b8, b9, b10, b11, b12, b13, b14, b15] ∧ a = ⟨#[.agg #[.slice A0 pts.length c0, .slice A1 es.length c1], .pointer (some ⟨w.heap.size, 0, none⟩), .pointer (some ⟨w.heap.size + 1, 0, none⟩), .pointer (some ⟨V1.heap.size, 0, none⟩), undef, .pointer (some ⟨X, 0, none⟩), .slice (some ⟨g, s * 3, none⟩) (t - s) (t - s), .int .i64 (((1 + m : Nat) : Int)), .int .i64 (((t - s - 1 - m : Nat) : Int)), .agg #[.slice A0 pts.length c0, .slice A1 es.length c1], .agg #[.slice (some ⟨g, 0, none⟩) pts.length cp, .slice Ae es.length ce], .pointer (some ⟨V1.heap.size, 1, none⟩), .slice Ae es.length ce, .pointer (some ⟨V1.heap.size, 0, none⟩), .slice (some ⟨g, 0, none⟩) pts.length cp, .int .i64 pts.length, .func (.func 55) #[] #[.pointer (some ⟨V1.heap.size + 1, 0, none⟩), .pointer (some ⟨V1.heap.size + 1 + 1, 0, none⟩)], .int .i64 k, .agg #[.int .i64 s, .int .i64 t], .pointer (some ⟨V1.heap.size, 0, none⟩), .slice (some ⟨g, 0, none⟩) pts.length cp, .pointer (some ⟨X, 0, none⟩), .int .i64 s, .pointer (some ⟨X, 1, none⟩), .int .i64 t, .pointer (some ⟨X, 1, none⟩), .int .i64 t, .slice (some ⟨g, s * 3, none⟩) (t - s) (t - s), .slice (some ⟨g, s * 3, none⟩) (t - s) (t - s), .int .i64 (((t - s : Nat) : Int)), .int .i64 (((t - s : Nat) : Int) - 1), .int .i64 (((1 + m : Nat) : Int)), .int .i64 (((t - s - 1 - m : Nat) : Int)), .bool true, u34, u35, u36, u37, (cond b0 (.slice (some ⟨g, s * 3, none⟩) (t - s) (t - s)) u38), (cond b1 (.int .i64 (((1 + m : Nat) : Int))) u39), (cond b2 (.slice (some ⟨g, s * 3, none⟩) (t - s) (t - s)) u40), (cond b3 (.int .i64 (((t - s - 1 - m : Nat) : Int))) u41), (cond b4 (.slice (some ⟨g, s * 3, none⟩) (t - s) (t - s)) u42), (cond b5 (.int .i64 (((t - s - 1 - m : Nat) : Int))) u43), (cond b6 (.pointer (some ⟨g, (s + (t - s - 1 - m)) * 3, none⟩)) u44), (cond b7 (.agg #[.int .i64 (rd_T33 l ((s + (t - s - 1 - m)) : Nat)).f0, .int .i64 (rd_T33 l ((s + (t - s - 1 - m)) : Nat)).f1, .bool (rd_T33 l ((s + (t - s - 1 - m)) : Nat)).f2]) u45), (cond b8 (.slice (some ⟨g, s * 3, none⟩) (t - s) (t - s)) u46), (cond b9 (.int .i64 (((1 + m : Nat) : Int))) u47), (cond b10 (.pointer (some ⟨g, (s + (1 + m)) * 3, none⟩)) u48), (cond b11 (.agg #[.int .i64 (rd_T33 l ((s + (1 + m)) : Nat)).f0, .int .i64 (rd_T33 l ((s + (1 + m)) : Nat)).f1, .bool (rd_T33 l ((s + (1 + m)) : Nat)).f2]) u49), (cond b12 (.pointer (some ⟨g, (s + (1 + m)) * 3, none⟩)) u50), (cond b14 (.pointer (some ⟨g, (s + (t - s - 1 - m)) * 3, none⟩)) u51), undef], []⟩ ∧ (b13 = true → b7 = true) ∧ (b13 = true → b11 = true) ∧ (b15 = true → b13 = true) ∧ (Kd.R k33 33 W' V0.heap.size (Own1 (.slice (some ⟨g, 0, none⟩) pts.length cp)) (.slice (some ⟨g, 0, none⟩) pts.length cp) (cond b15 ((l.set (s + (1 + m)) (rd_T33 l ((s + (t - s - 1 - m)) : Nat))).set (s + (t - s - 1 - m)) (rd_T33 l ((s + (1 + m)) : Nat))) (cond b13 (l.set (s + (1 + m)) (rd_T33 l ((s + (t - s - 1 - m)) : Nat))) l))) ∧ (Chg (fun i => i = g) Va W')) ?_ ?_ ?_ ?_
    ·
     rintro lst a W' ⟨b0, b1, b2, b3, b4, b5, b6, b7, b8, b9, b10, b11, b12, b13, b14, b15, rfl, _⟩
     rfl
    ·
     exact ⟨false, false, false, false, false, false, false, false, false, false, false, false, false, false, false, false, rfl, rfl, (fun h => Bool.noConfusion h), (fun h => Bool.noConfusion h), (fun h => Bool.noConfusion h), (R_chg HR ((Chg.refl (fun _ => False) _).drew) (fun _ _ => id)), HC.drew⟩
    ·
     rintro lst a W' i o ⟨b0, b1, b2, b3, b4, b5, b6, b7, b8, b9, b10, b11, b12, b13, b14, b15, rfl, rfl, k0, k1, k2, hHR, hHC⟩ ho hf hd K hK
     have hi : i < 16 := (Array.getElem?_eq_some_iff.1 ho).1
     have ho2 := ho
     rcases (show i = 0 ∨ i = 1 ∨ i = 2 ∨ i = 3 ∨ i = 4 ∨ i = 5 ∨ i = 6 ∨ i = 7 ∨ i = 8 ∨ i = 9 ∨ i = 10 ∨ i = 11 ∨ i = 12 ∨ i = 13 ∨ i = 14 ∨ i = 15 by omega) with rfl | rfl | rfl | rfl | rfl | rfl | rfl | rfl | rfl | rfl | rfl | rfl | rfl | rfl | rfl | rfl
     ·
      simp only [List.getElem?_toArray, List.getElem?_cons_succ, List.getElem?_cons_zero, Option.some.injEq] at ho
      subst ho
      replace hf : b0 = false := hf
      subst hf
      refine Go.Proofs.YtbmklpcheopgoaaReg.opIn_val ho2 rfl (fun _ => trivial) (fun c h => by cases h) (v := .slice (some ⟨g, s * 3, none⟩) (t - s) (t - s)) (w1 := W') ?_ (hK _ _ ⟨true, b1, b2, b3, b4, b5, b6, b7, b8, b9, b10, b11, b12, b13, b14, b15, rfl, rfl, (k0), (k1), (k2), hHR, hHC⟩)
      simp [go_sem, hu2]
     ·
      simp only [List.getElem?_toArray, List.getElem?_cons_succ, List.getElem?_cons_zero, Option.some.injEq] at ho
      subst ho
      replace hf : b1 = false := hf
      subst hf
      refine Go.Proofs.YtbmklpcheopgoaaReg.opIn_val ho2 rfl (fun _ => trivial) (fun c h => by cases h) (v := .int .i64 (((1 + m : Nat) : Int))) (w1 := W') ?_ (hK _ _ ⟨b0, true, b2, b3, b4, b5, b6, b7, b8, b9, b10, b11, b12, b13, b14, b15, rfl, rfl, (k0), (k1), (k2), hHR, hHC⟩)
      simp [go_sem, hu2]
     ·
      simp only [List.getElem?_toArray, List.getElem?_cons_succ, List.getElem?_cons_zero, Option.some.injEq] at ho
      subst ho
      replace hf : b2 = false := hf
      subst hf
      refine Go.Proofs.YtbmklpcheopgoaaReg.opIn_val ho2 rfl (fun _ => trivial) (fun c h => by cases h) (v := .slice (some ⟨g, s * 3, none⟩) (t - s) (t - s)) (w1 := W') ?_ (hK _ _ ⟨b0, b1, true, b3, b4, b5, b6, b7, b8, b9, b10, b11, b12, b13, b14, b15, rfl, rfl, (k0), (k1), (k2), hHR, hHC⟩)
      simp [go_sem, hu2]
     ·
      simp only [List.getElem?_toArray, List.getElem?_cons_succ, List.getElem?_cons_zero, Option.some.injEq] at ho
      subst ho
      replace hf : b3 = false := hf
      subst hf
      refine Go.Proofs.YtbmklpcheopgoaaReg.opIn_val ho2 rfl (fun _ => trivial) (fun c h => by cases h) (v := .int .i64 (((t - s - 1 - m : Nat) : Int))) (w1 := W') ?_ (hK _ _ ⟨b0, b1, b2, true, b4, b5, b6, b7, b8, b9, b10, b11, b12, b13, b14, b15, rfl, rfl, (k0), (k1), (k2), hHR, hHC⟩)
      simp [go_sem, hu2]
     ·
      simp only [List.getElem?_toArray, List.getElem?_cons_succ, List.getElem?_cons_zero, Option.some.injEq] at ho
      subst ho
      replace hf : b4 = false := hf
      subst hf
      refine Go.Proofs.YtbmklpcheopgoaaReg.opIn_val ho2 rfl (fun _ => trivial) (fun c h => by cases h) (v := .slice (some ⟨g, s * 3, none⟩) (t - s) (t - s)) (w1 := W') ?_ (hK _ _ ⟨b0, b1, b2, b3, true, b5, b6, b7, b8, b9, b10, b11, b12, b13, b14, b15, rfl, rfl, (k0), (k1), (k2), hHR, hHC⟩)
      simp [go_sem, hu2]
     ·
      simp only [List.getElem?_toArray, List.getElem?_cons_succ, List.getElem?_cons_zero, Option.some.injEq] at ho
      subst ho
      replace hf : b5 = false := hf
      subst hf
      refine Go.Proofs.YtbmklpcheopgoaaReg.opIn_val ho2 rfl (fun _ => trivial) (fun c h => by cases h) (v := .int .i64 (((t - s - 1 - m : Nat) : Int))) (w1 := W') ?_ (hK _ _ ⟨b0, b1, b2, b3, b4, true, b6, b7, b8, b9, b10, b11, b12, b13, b14, b15, rfl, rfl, (k0), (k1), (k2), hHR, hHC⟩)
      simp [go_sem, hu2]
     ·
      simp only [List.getElem?_toArray, List.getElem?_cons_succ, List.getElem?_cons_zero, Option.some.injEq] at ho
      subst ho
      replace hf : b6 = false := hf
      have d4 : b4 = true := hd ⟨4, .data⟩ (by simp) rfl
      have d5 : b5 = true := hd ⟨5, .data⟩ (by simp) rfl
      subst d4
      subst d5
      subst hf
      refine Go.Proofs.YtbmklpcheopgoaaReg.opIn_val ho2 rfl (fun _ => trivial) (fun c h => by cases h) (v := .pointer (some ⟨g, (s + (t - s - 1 - m)) * 3, none⟩)) (w1 := W') ?_ (hK _ _ ⟨b0, b1, b2, b3, true, true, true, b7, b8, b9, b10, b11, b12, b13, b14, b15, rfl, rfl, (k0), (k1), (k2), hHR, hHC⟩)
      refine run_indexAddr_pt (i := (t - s - 1 - m)) rfl rfl rfl (by omega) (by omega)
     ·
      simp only [List.getElem?_toArray, List.getElem?_cons_succ, List.getElem?_cons_zero, Option.some.injEq] at ho
      subst ho
      replace hf : b7 = false := hf
      have d6 : b6 = true := hd ⟨6, .data⟩ (by simp) rfl
      subst d6
      have n13 : b13 = false := Bool.eq_false_iff.mpr (fun h => absurd (k0 h) (by rw [hf]; decide))
      have n15 : b15 = false := Bool.eq_false_iff.mpr (fun h => absurd (k2 h) (by rw [n13]; decide))
      subst n13
      subst n15
      subst hf
      obtain ⟨c_, hc1_, hc2_, hc3_, hc4_⟩ := Kd.R_elem hHR z33 (((s + (t - s - 1 - m)) : Nat) : Int) (by omega) (by omega)
      obtain rfl := k33_openM hc2_
      simp only [Int.toNat_natCast] at hc3_
      refine Go.Proofs.YtbmklpcheopgoaaReg.opIn_val ho2 rfl (fun _ => trivial) (fun c h => by cases h) (v := .agg #[.int .i64 (rd_T33 l ((s + (t - s - 1 - m)) : Nat)).f0, .int .i64 (rd_T33 l ((s + (t - s - 1 - m)) : Nat)).f1, .bool (rd_T33 l ((s + (t - s - 1 - m)) : Nat)).f2]) (w1 := W') ?_ (hK _ _ ⟨b0, b1, b2, b3, b4, b5, true, true, b8, b9, b10, b11, b12, false, b14, false, rfl, rfl, (fun _ => rfl), (fun h => Bool.noConfusion h), (fun h => Bool.noConfusion h), hHR, hHC⟩)
      exact run_load_pt rfl rfl (hc3_ 0 _ rfl) (hc3_ 1 _ rfl) (hc3_ 2 _ rfl)
     ·
      simp only [List.getElem?_toArray, List.getElem?_cons_succ, List.getElem?_cons_zero, Option.some.injEq] at ho
      subst ho
      replace hf : b8 = false := hf
      subst hf
      refine Go.Proofs.YtbmklpcheopgoaaReg.opIn_val ho2 rfl (fun _ => trivial) (fun c h => by cases h) (v := .slice (some ⟨g, s * 3, none⟩) (t - s) (t - s)) (w1 := W') ?_ (hK _ _ ⟨b0, b1, b2, b3, b4, b5, b6, b7, true, b9, b10, b11, b12, b13, b14, b15, rfl, rfl, (k0), (k1), (k2), hHR, hHC⟩)
      simp [go_sem, hu2]
     ·
      simp only [List.getElem?_toArray, List.getElem?_cons_succ, List.getElem?_cons_zero, Option.some.injEq] at ho
      subst ho
      replace hf : b9 = false := hf
      subst hf
      refine Go.Proofs.YtbmklpcheopgoaaReg.opIn_val ho2 rfl (fun _ => trivial) (fun c h => by cases h) (v := .int .i64 (((1 + m : Nat) : Int))) (w1 := W') ?_ (hK _ _ ⟨b0, b1, b2, b3, b4, b5, b6, b7, b8, true, b10, b11, b12, b13, b14, b15, rfl, rfl, (k0), (k1), (k2), hHR, hHC⟩)
      simp [go_sem, hu2]
     ·
      simp only [List.getElem?_toArray, List.getElem?_cons_succ, List.getElem?_cons_zero, Option.some.injEq] at ho
      subst ho
      replace hf : b10 = false := hf
      have d8 : b8 = true := hd ⟨8, .data⟩ (by simp) rfl
      have d9 : b9 = true := hd ⟨9, .data⟩ (by simp) rfl
      subst d8
      subst d9
      subst hf
      refine Go.Proofs.YtbmklpcheopgoaaReg.opIn_val ho2 rfl (fun _ => trivial) (fun c h => by cases h) (v := .pointer (some ⟨g, (s + (1 + m)) * 3, none⟩)) (w1 := W') ?_ (hK _ _ ⟨b0, b1, b2, b3, b4, b5, b6, b7, true, true, true, b11, b12, b13, b14, b15, rfl, rfl, (k0), (k1), (k2), hHR, hHC⟩)
      refine run_indexAddr_pt (i := (1 + m)) rfl rfl rfl (by omega) (by omega)
     ·
      simp only [List.getElem?_toArray, List.getElem?_cons_succ, List.getElem?_cons_zero, Option.some.injEq] at ho
      subst ho
      replace hf : b11 = false := hf
      have d10 : b10 = true := hd ⟨10, .data⟩ (by simp) rfl
      subst d10
      have n13 : b13 = false := Bool.eq_false_iff.mpr (fun h => absurd (k1 h) (by rw [hf]; decide))
      have n15 : b15 = false := Bool.eq_false_iff.mpr (fun h => absurd (k2 h) (by rw [n13]; decide))
      subst n13
      subst n15
      subst hf
      obtain ⟨c_, hc1_, hc2_, hc3_, hc4_⟩ := Kd.R_elem hHR z33 (((s + (1 + m)) : Nat) : Int) (by omega) (by omega)
      obtain rfl := k33_openM hc2_
      simp only [Int.toNat_natCast] at hc3_
      refine Go.Proofs.YtbmklpcheopgoaaReg.opIn_val ho2 rfl (fun _ => trivial) (fun c h => by cases h) (v := .agg #[.int .i64 (rd_T33 l ((s + (1 + m)) : Nat)).f0, .int .i64 (rd_T33 l ((s + (1 + m)) : Nat)).f1, .bool (rd_T33 l ((s + (1 + m)) : Nat)).f2]) (w1 := W') ?_ (hK _ _ ⟨b0, b1, b2, b3, b4, b5, b6, b7, b8, b9, true, true, b12, false, b14, false, rfl, rfl, (fun h => Bool.noConfusion h), (fun _ => rfl), (fun h => Bool.noConfusion h), hHR, hHC⟩)
      exact run_load_pt rfl rfl (hc3_ 0 _ rfl) (hc3_ 1 _ rfl) (hc3_ 2 _ rfl)
     ·
      simp only [List.getElem?_toArray, List.getElem?_cons_succ, List.getElem?_cons_zero, Option.some.injEq] at ho
      subst ho
      replace hf : b12 = false := hf
      have d0 : b0 = true := hd ⟨0, .data⟩ (by simp) rfl
      have d1 : b1 = true := hd ⟨1, .data⟩ (by simp) rfl
      have d4 : b4 = true := hd ⟨4, .phase⟩ (by simp) rfl
      have d5 : b5 = true := hd ⟨5, .phase⟩ (by simp) rfl
      have d6 : b6 = true := hd ⟨6, .phase⟩ (by simp) rfl
      have d7 : b7 = true := hd ⟨7, .phase⟩ (by simp) rfl
      have d11 : b11 = true := hd ⟨11, .phase⟩ (by simp) rfl
      subst d0
      subst d1
      subst d4
      subst d5
      subst d6
      subst d7
      subst d11
      subst hf
      refine Go.Proofs.YtbmklpcheopgoaaReg.opIn_val ho2 rfl (fun _ => trivial) (fun c h => by cases h) (v := .pointer (some ⟨g, (s + (1 + m)) * 3, none⟩)) (w1 := W') ?_ (hK _ _ ⟨true, true, b2, b3, true, true, true, true, b8, b9, b10, true, true, b13, b14, b15, rfl, rfl, (fun _ => rfl), (fun _ => rfl), (k2), hHR, hHC⟩)
      refine run_indexAddr_pt (i := (1 + m)) rfl rfl rfl (by omega) (by omega)
     ·
      simp only [List.getElem?_toArray, List.getElem?_cons_succ, List.getElem?_cons_zero, Option.some.injEq] at ho
      subst ho
      replace hf : b13 = false := hf
      have d0 : b0 = true := hd ⟨0, .phase⟩ (by simp) rfl
      have d1 : b1 = true := hd ⟨1, .phase⟩ (by simp) rfl
      have d4 : b4 = true := hd ⟨4, .phase⟩ (by simp) rfl
      have d5 : b5 = true := hd ⟨5, .phase⟩ (by simp) rfl
      have d6 : b6 = true := hd ⟨6, .phase⟩ (by simp) rfl
      have d7 : b7 = true := hd ⟨7, .data⟩ (by simp) rfl
      have d11 : b11 = true := hd ⟨11, .phase⟩ (by simp) rfl
      have d12 : b12 = true := hd ⟨12, .data⟩ (by simp) rfl
      subst d0
      subst d1
      subst d4
      subst d5
      subst d6
      subst d7
      subst d11
      subst d12
      have n15 : b15 = false := Bool.eq_false_iff.mpr (fun h => absurd (k2 h) (by rw [hf]; decide))
      subst n15
      subst hf
      obtain ⟨w1, hr1, hr2, hr3⟩ := row_store (P := Try.prog) flat_pt hHR (s + (1 + m)) (by omega) 33 (.agg #[.int .i64 (rd_T33 l ((s + (t - s - 1 - m)) : Nat)).f0, .int .i64 (rd_T33 l ((s + (t - s - 1 - m)) : Nat)).f1, .bool (rd_T33 l ((s + (t - s - 1 - m)) : Nat)).f2]) (x' := (rd_T33 l ((s + (t - s - 1 - m)) : Nat))) (seg := [.int .i64 (rd_T33 l ((s + (t - s - 1 - m)) : Nat)).f0, .int .i64 (rd_T33 l ((s + (t - s - 1 - m)) : Nat)).f1, .bool (rd_T33 l ((s + (t - s - 1 - m)) : Nat)).f2]) rfl rfl info_pt (by simp [Value.oneCell']) (fun ok => k33_mkM _ _ _ _)
      refine Go.Proofs.YtbmklpcheopgoaaReg.opIn_skip ho2 rfl (fun _ => trivial) (fun c h => by cases h) (w1 := w1) ?_ (hK _ _ ⟨true, true, b2, b3, true, true, true, true, b8, b9, b10, true, true, true, b14, false, rfl, rfl, (fun _ => rfl), (fun _ => rfl), (fun _ => rfl), hr2, hHC.trans hr3⟩)
      exact run_store_op rfl rfl rfl hr1
     ·
      simp only [List.getElem?_toArray, List.getElem?_cons_succ, List.getElem?_cons_zero, Option.some.injEq] at ho
      subst ho
      replace hf : b14 = false := hf
      have d0 : b0 = true := hd ⟨0, .phase⟩ (by simp) rfl
      have d1 : b1 = true := hd ⟨1, .phase⟩ (by simp) rfl
      have d2 : b2 = true := hd ⟨2, .data⟩ (by simp) rfl
      have d3 : b3 = true := hd ⟨3, .data⟩ (by simp) rfl
      have d4 : b4 = true := hd ⟨4, .phase⟩ (by simp) rfl
      have d5 : b5 = true := hd ⟨5, .phase⟩ (by simp) rfl
      have d6 : b6 = true := hd ⟨6, .phase⟩ (by simp) rfl
      have d7 : b7 = true := hd ⟨7, .phase⟩ (by simp) rfl
      have d8 : b8 = true := hd ⟨8, .phase⟩ (by simp) rfl
      have d9 : b9 = true := hd ⟨9, .phase⟩ (by simp) rfl
      have d10 : b10 = true := hd ⟨10, .phase⟩ (by simp) rfl
      have d11 : b11 = true := hd ⟨11, .phase⟩ (by simp) rfl
      have d12 : b12 = true := hd ⟨12, .phase⟩ (by simp) rfl
      have d13 : b13 = true := hd ⟨13, .phase⟩ (by simp) rfl
      subst d0
      subst d1
      subst d2
      subst d3
      subst d4
      subst d5
      subst d6
      subst d7
      subst d8
      subst d9
      subst d10
      subst d11
      subst d12
      subst d13
      subst hf
      refine Go.Proofs.YtbmklpcheopgoaaReg.opIn_val ho2 rfl (fun _ => trivial) (fun c h => by cases h) (v := .pointer (some ⟨g, (s + (t - s - 1 - m)) * 3, none⟩)) (w1 := W') ?_ (hK _ _ ⟨true, true, true, true, true, true, true, true, true, true, true, true, true, true, true, b15, rfl, rfl, (fun _ => rfl), (fun _ => rfl), (fun _ => rfl), hHR, hHC⟩)
      refine run_indexAddr_pt (i := (t - s - 1 - m)) rfl rfl rfl (by omega) (by omega)
     ·
      simp only [List.getElem?_toArray, List.getElem?_cons_succ, List.getElem?_cons_zero, Option.some.injEq] at ho
      subst ho
      replace hf : b15 = false := hf
      have d0 : b0 = true := hd ⟨0, .phase⟩ (by simp) rfl
      have d1 : b1 = true := hd ⟨1, .phase⟩ (by simp) rfl
      have d2 : b2 = true := hd ⟨2, .phase⟩ (by simp) rfl
      have d3 : b3 = true := hd ⟨3, .phase⟩ (by simp) rfl
      have d4 : b4 = true := hd ⟨4, .phase⟩ (by simp) rfl
      have d5 : b5 = true := hd ⟨5, .phase⟩ (by simp) rfl
      have d6 : b6 = true := hd ⟨6, .phase⟩ (by simp) rfl
      have d7 : b7 = true := hd ⟨7, .phase⟩ (by simp) rfl
      have d8 : b8 = true := hd ⟨8, .phase⟩ (by simp) rfl
      have d9 : b9 = true := hd ⟨9, .phase⟩ (by simp) rfl
      have d10 : b10 = true := hd ⟨10, .phase⟩ (by simp) rfl
      have d11 : b11 = true := hd ⟨11, .data⟩ (by simp) rfl
      have d12 : b12 = true := hd ⟨12, .phase⟩ (by simp) rfl
      have d13 : b13 = true := hd ⟨13, .chain⟩ (by simp) rfl
      have d14 : b14 = true := hd ⟨14, .data⟩ (by simp) rfl
      subst d0
      subst d1
      subst d2
      subst d3
      subst d4
      subst d5
      subst d6
      subst d7
      subst d8
      subst d9
      subst d10
      subst d11
      subst d12
      subst d13
      subst d14
      subst hf
      obtain ⟨w1, hr1, hr2, hr3⟩ := row_store (P := Try.prog) flat_pt hHR (s + (t - s - 1 - m)) (by omega) 33 (.agg #[.int .i64 (rd_T33 l ((s + (1 + m)) : Nat)).f0, .int .i64 (rd_T33 l ((s + (1 + m)) : Nat)).f1, .bool (rd_T33 l ((s + (1 + m)) : Nat)).f2]) (x' := (rd_T33 l ((s + (1 + m)) : Nat))) (seg := [.int .i64 (rd_T33 l ((s + (1 + m)) : Nat)).f0, .int .i64 (rd_T33 l ((s + (1 + m)) : Nat)).f1, .bool (rd_T33 l ((s + (1 + m)) : Nat)).f2]) rfl rfl info_pt (by simp [Value.oneCell']) (fun ok => k33_mkM _ _ _ _)
      refine Go.Proofs.YtbmklpcheopgoaaReg.opIn_skip ho2 rfl (fun _ => trivial) (fun c h => by cases h) (w1 := w1) ?_ (hK _ _ ⟨true, true, true, true, true, true, true, true, true, true, true, true, true, true, true, true, rfl, rfl, (fun _ => rfl), (fun _ => rfl), (fun _ => rfl), hr2, hHC.trans hr3⟩)
      exact run_store_op rfl rfl rfl hr1
    ·
     rintro lst a W' ⟨b0, b1, b2, b3, b4, b5, b6, b7, b8, b9, b10, b11, b12, b13, b14, b15, rfl, rfl, k0, k1, k2, hHR, hHC⟩ hall
     have a0 : b0 = true := hall 0 (by decide)
     have a1 : b1 = true := hall 1 (by decide)
     have a2 : b2 = true := hall 2 (by decide)
     have a3 : b3 = true := hall 3 (by decide)
     have a4 : b4 = true := hall 4 (by decide)
     have a5 : b5 = true := hall 5 (by decide)
     have a6 : b6 = true := hall 6 (by decide)
     have a7 : b7 = true := hall 7 (by decide)
     have a8 : b8 = true := hall 8 (by decide)
     have a9 : b9 = true := hall 9 (by decide)
     have a10 : b10 = true := hall 10 (by decide)
     have a11 : b11 = true := hall 11 (by decide)
     have a12 : b12 = true := hall 12 (by decide)
     have a13 : b13 = true := hall 13 (by decide)
     have a14 : b14 = true := hall 14 (by decide)
     have a15 : b15 = true := hall 15 (by decide)
     subst a0 a1 a2 a3 a4 a5 a6 a7 a8 a9 a10 a11 a12 a13 a14 a15
     clear k0 k1 k2
     clear hall
     have HR : Kd.R k33 33 W' V0.heap.size (Own1 (.slice (some ⟨g, 0, none⟩) pts.length cp)) (.slice (some ⟨g, 0, none⟩) pts.length cp) ((l.set (s + (1 + m)) (rd_T33 l ((s + (t - s - 1 - m)) : Nat))).set (s + (t - s - 1 - m)) (rd_T33 l ((s + (1 + m)) : Nat))) := hHR
     have HC : Chg (fun i => i = g) Va W' := hHC
     clear hHR hHC
     gi_wp2
     refine ⟨⟨m + 1, by omega, by congr 1 <;> omega, by congr 1 <;> omega, ⟨by rw [HKS.out]; exact HR, HC⟩⟩, by simp [intOf]; omega⟩
   ·
    have hd : decide (1 + (m : Int) < ((t - s - 1 - m : Nat) : Int)) = false := by simp; omega
    have HHR := Lib.hid HR
    have HHC := Lib.hid HC
    clear HR HC
    gi_wp2
    obtain ⟨r2, r3, r4, r5⟩ := HH.out
    have HC := HHC.out
    have HR := HHR.out
    have hme : m = (t - s - 1) / 2 := by omega
    refine ⟨own, Grow.refl _ _, fun b h => HC.lt (how b h), HC.mono (fun b _ hb => by subst hb; exact (HOWN.out b).2 (by simp [Own1, Value.ownBlock]; try omega)), HOWN.out, ?_, ?_, ?_, ?_, ?_⟩
    ·
     rw [hNX.out, ← hme]; exact HR
    ·
     exact R_chg r3 HC (fun k hk e => hne k (by subst e; simp [Value.ownBlock]; try omega) hk)
    ·
     exact r4.chg HC (fun b hb e => by
      have := hpk g (by simp [Value.ownBlock]; try omega)
      simp at hb
      omega)
    ·
     exact r5.trans (HC.below (B := w.heap.size) r5.size (fun i hi e => by subst e; have := hbV0.size; omega))
    ·
     have := HC.size; omega
 ·
  rintro D own Va hD how hnD ⟨h1, h2, h3, h4, h5, h6⟩ hdef
  subst hvp; subst hve
  have g0 := h4.cell 0 rfl 0
  have g1 := h4.cell 0 rfl 1
  have g2 := h4.cell 1 rfl 0
  have g3 := h4.cell 1 rfl 1
  have g4 := h4.free 1 rfl 0
  have g5 := h4.free 1 rfl 1
  simp at g0 g1 g2 g3
  have HH := Lib.hid (And.intro h2 (And.intro h3 (And.intro h4 h5)))
  clear h2 h3 h4 h5 h1
  gi_wp2
  obtain ⟨h2, h3, h4, h5⟩ := HH.out
  have hd1 : Chg (fun b => b = w.heap.size + 1) Va ((Va.setCell ⟨w.heap.size + 1, 0, none⟩ (.slice Ap pts.length cp)).setCell ⟨w.heap.size + 1, 1, none⟩ (.slice Ae es.length ce)) := ((Chg.refl (fun b => b = w.heap.size + 1) Va).setCell (p := ⟨w.heap.size + 1, 0, none⟩) (fun _ => rfl) _).setCell (p := ⟨w.heap.size + 1, 1, none⟩) (fun _ => rfl) _
  have hB9 := (h4.set 1 rfl 0 (.slice Ap pts.length cp)).set 1 rfl 1 (.slice Ae es.length ce)
  have hR9 := R_chg h2 hd1 (fun k hk e => by have := (hpk k hk).1; omega)
  have hE9 := R_chg h3 hd1 (fun k hk e => by have := (hek k hk).1; omega)
  have hW9 : Below w.heap.size w _ := h5.trans (hd1.below (B := w.heap.size) h5.size (fun i hi e => by omega))
  refine leaves_collected (hd1.heap hdef (fun e => by omega)) fun V2 hc => ?_
  have hB10 := hB9.chg hc (fun b hb e => by simp at hb; omega)
  have hR10 := Kd.R_lower (R_all (R_chg hR9 hc (fun k hk e => by have := (hpk k hk).2.1; omega))) (show w.heap.size ≤ V0.heap.size by omega)
  have hE10 := Kd.R_lower (R_all (R_chg hE9 hc (fun k hk e => by have := (hek k hk).2.1; omega))) (show w.heap.size ≤ V0.heap.size by omega)
  have hW10 := hW9.trans (hc.below (B := w.heap.size) hW9.size (fun i hi e => by omega))
  exact ⟨.agg #[.slice Ap pts.length cp, .slice Ae es.length ce], by simp [results, Try.f29, go_sem, hB10.cell 1 rfl 0, hB10.cell 1 rfl 1], _, _, rfl, hR10, hE10, hW10⟩
 ·
  rintro D c k own V1 _ _ _ _ h
  exact h.elim
def outline_Reversed.f (l0_0 : List S33) (l0_1 : List Int) : Option (List S33 × List Int) :=
 if l0_0.length ≤ 1000000 ∧ l0_1.length ≤ 1000000 then some (revL l0_0 l0_1 (cutsL l0_1 l0_0.length).length, l0_1) else none
theorem outline_Reversed.calls (A0_0 : Option Addr) (c0_0 : Nat) (l0_0 : List (S33)) (A0_1 : Option Addr) (c0_1 : Nat) (l0_1 : List Int) (r1 : List (S33)) (r2 : List Int) (w : World) (hr0_0 : Kd.C k33 w A0_0 l0_0.length l0_0) (hc0_0 : l0_0.length ≤ c0_0) (hr0_1 : Kd.C (Kd.int .i64) w A0_1 l0_1.length l0_1) (hc0_1 : l0_1.length ≤ c0_1) (h : outline_Reversed.f l0_0 l0_1 = some (r1, r2)) :
  Calls Try.prog 29 #[.agg #[.slice A0_0 l0_0.length c0_0, .slice A0_1 l0_1.length c0_1]] w fun e w' => ∃ v0_ v1_ : Value, e = .returned (.agg #[v0_, v1_]) ∧ Kd.R k33 33 w' w.heap.size (fun _ => True) v0_ r1 ∧ Kd.R (Kd.int .i64) 3 w' w.heap.size (fun _ => True) v1_ r2 ∧ Below w.heap.size w w' := by
 unfold outline_Reversed.f at h
 split at h
 ·
  rename_i hl
  simp only [Option.some.injEq, Prod.mk.injEq] at h
  obtain ⟨rfl, rfl⟩ := h
  exact reversed_calls A0_0 A0_1 c0_0 c0_1 l0_0 l0_1 w hr0_0 hc0_0 hr0_1 hc0_1 hl.1 hl.2
 ·
  cases h
end Go.Proofs.Ytbmklpcheopgoaa.H

namespace Go.Proofs.Ytbmklpcheopgoaa.H
open Go.RowKit Go.Proofs.YtbmklpcheopgoaaW.PrintWords Go.Proofs.YtbmklpcheopgoaaW.PrintLast Go.Proofs.YtbmklpcheopgoaaW.PrintMore
attribute [local go_sem] max2_int min2_int max_two min_two max_three min_three max_four min_four
set_option linter.unusedVariables false
set_option linter.unusedSimpArgs false
def outline_at.f (a0 : Int) (a1 : Int) (a2 : Int) (a3 : Int) : Option (Int) := some ((wrap64 ((wrap64 ((wrap64 ((wrap64 ((wrap64 ((wrap64 (8 - a0)) * (wrap64 (8 - a0)))) * a1)) + (wrap64 ((wrap64 ((wrap64 (2 * a0)) * (wrap64 (8 - a0)))) * a2)))) + (wrap64 ((wrap64 (a0 * a0)) * a3)))) + 32)) / 64)
set_option maxHeartbeats 8000000 in
set_option maxRecDepth 100000 in
theorem outline_at.calls (a0 : Int) (a1 : Int) (a2 : Int) (a3 : Int) (r : Int) (w : World) (h : outline_at.f a0 a1 a2 a3 = some r) :
  Calls Try.prog 56 #[.int .i64 a0, .int .i64 a1, .int .i64 a2, .int .i64 a3] w fun e w' => e = .returned (.int .i64 r) ∧ Drawn0 w w' := by
 have H : (some ((wrap64 ((wrap64 ((wrap64 ((wrap64 ((wrap64 ((wrap64 (8 - a0)) * (wrap64 (8 - a0)))) * a1)) + (wrap64 ((wrap64 ((wrap64 (2 * a0)) * (wrap64 (8 - a0)))) * a2)))) + (wrap64 ((wrap64 (a0 * a0)) * a3)))) + 32)) / 64)) = some r := h
 clear h
 obtain rfl := Option.some.inj H
 go_enter Try.func56, Try.ntmps56
 go_wp2
 go_ret
 exact ⟨by first | rfl | (simp; done) | (simp [*]; done), by repeat (first | exact Drawn0.refl _ | apply Drawn0.step)⟩
end Go.Proofs.Ytbmklpcheopgoaa.H

namespace Go.Proofs.YtbmklpcheopgoaaCallOps
open Go Go.RowKit Go.Proofs.YtbmklpcheopgoaaIt Go.Proofs.YtbmklpcheopgoaaW.PrintWords Go.Proofs.YtbmklpcheopgoaaW.PrintLast

theorem op_call {P : Program} {o : Oper} {a : Act} {w : World} {K : Act → World → Prop} {Q : Exit → Act → World → Prop} {f : FuncId} {fn : Func} {avs : Array Operand} {ts : Array TypeId} (hf : P.funcs[f]? = some fn) (hname : (fn.name == "runtime.NumGoroutine") = false) (hb : fn.body.isSome = true) (args : Array Value)
    (hop : o.op = .call { callee := .value (.func f), args := avs, argTypes := ts }) (hargs : avs.map a.eval = args)
    (h : Calls P f args w fun e w' => ∃ v, e = .returned v ∧ K (a.put o.dst v) w') : Oper.wp P o a w K Q := by
  have he := enters_ hf hname hb args w
  have hrun : (execOp a.eval o).run P w = .ok (.enter f args) w := by
    unfold execOp
    simp [hop, resolve, Deferred.ofValue, invoke, Act.eval, hargs, he]
  unfold Oper.wp
  rw [hrun, Oper.upon_enter]
  refine h.mono fun e w'' hh => ?_
  obtain ⟨v, rfl, hk⟩ := hh
  exact hk

theorem op_callIn {F : Fence} {n : Nat} {P : Program} {o : Oper} {a : Act} {w : World} {K : Act → World → Prop} {Q : Exit → Act → World → Prop} {f : FuncId} {fn : Func} {avs : Array Operand} {ts : Array TypeId} (hf : P.funcs[f]? = some fn) (hname : (fn.name == "runtime.NumGoroutine") = false) (hb : fn.body.isSome = true) (args : Array Value)
    (hop : o.op = .call { callee := .value (.func f), args := avs, argTypes := ts }) (hargs : avs.map a.eval = args) (hF : F.depth = none) (hfn : ∀ f, F.fn f)
    (h : CallsIn F (n - 1) P f args w fun e w' => ∃ v, e = .returned v ∧ K (a.put o.dst v) w') : Oper.wpIn F n P o a w K Q := by
  have he := enters_ hf hname hb args w
  have hrun : (execOp a.eval o).run P w = .ok (.enter f args) w := by
    unfold execOp
    simp [hop, resolve, Deferred.ofValue, invoke, Act.eval, hargs, he]
  unfold Oper.wpIn
  refine ⟨fun f _ => hfn f, ?_⟩
  rw [Oper.semAt_plain F _ _ (by rw [hop]; intro c hc'; cases hc'), hrun]
  refine ⟨fun hh => (by rw [hF] at hh; cases hh), CallsIn.mono h fun e w'' hh => ?_⟩
  obtain ⟨v, rfl, hk⟩ := hh
  exact hk
end Go.Proofs.YtbmklpcheopgoaaCallOps
