/- Texts of this session, one behind the other, for the statement OutlineWithin: what its functions compute, plain facts, and (last) its row. No condition besides those stated. -/
import Derived.Test.YtbmklpcheopgoaaMWithin1
import Derived.WalkKit
import Derived.Lib.Hide
import Derived.WalkSpells
import Derived.Test.YtbmklpcheopgoaaWLast
import Derived.StillTailTactics
import Derived.Deep.RegionHeld3
import Derived.Deep.AppendLies
set_option linter.unusedVariables false
set_option linter.unusedSimpArgs false
namespace Go.Proofs.Ytbmklpcheopgoaa.H
open Go.RowKit Go.Proofs.YtbmklpcheopgoaaW.PrintWords Go.Proofs.YtbmklpcheopgoaaW.PrintLast Go.Proofs.YtbmklpcheopgoaaW.PrintMore
attribute [local go_sem] max2_int min2_int max_two min_two max_three min_three max_four min_four   -- for this text's walks alone
set_option linter.unusedVariables false
set_option linter.unusedSimpArgs false

/-! ### outline_Box: function 19 -/
open Go.Proofs.YtbmklpcheopgoaaOps Go.Proofs.YtbmklpcheopgoaaBlks Go.Proofs.YtbmklpcheopgoaaIt
attribute [local go_sem] World.cell?_alloc_some
def boxStep (st : S33 × S33) (i : Nat) (p : S33) : S33 × S33 :=
 let st : S33 × S33 := if i = 0 then (⟨p.f0, p.f1, false⟩, ⟨p.f0, p.f1, false⟩) else st
 (⟨min st.1.f0 p.f0, min st.1.f1 p.f1, st.1.f2⟩, ⟨max st.2.f0 p.f0, max st.2.f1 p.f1, st.2.f2⟩)
def boxSt (pts : List S33) (k : Nat) : S33 × S33 := (List.range k).foldl (fun st i => boxStep st i (rd_T33 pts i)) (z33, z33)
theorem boxSt_succ (pts : List S33) (k : Nat) : boxSt pts (k + 1) = boxStep (boxSt pts k) k (rd_T33 pts k) := by simp [boxSt, List.range_succ]
def boxPt (p : S33) : Obj := .cells #[.int .i64 p.f0, .int .i64 p.f1, .bool p.f2] 33 (0, 0)

set_option maxRecDepth 100000 in
set_option maxHeartbeats 4000000 in
theorem box_calls (A0 : Option Addr) (c0 : Nat) (pts : List S33) (v1 : Value) (w : World) (hr0 : Kd.C k33 w A0 pts.length pts) (hc0 : pts.length ≤ c0) :
  Calls Try.prog 19 #[.agg #[.slice A0 pts.length c0, v1]] w fun e w' => e = .returned (.tuple #[.agg #[.int .i64 (boxSt pts pts.length).1.f0, .int .i64 (boxSt pts pts.length).1.f1, .bool (boxSt pts pts.length).1.f2], .agg #[.int .i64 (boxSt pts pts.length).2.f0, .int .i64 (boxSt pts pts.length).2.f1, .bool (boxSt pts pts.length).2.f2], .bool (decide (0 < pts.length))]) ∧ Below w.heap.size w w' := by
 have hu := Try.underlying33
 have hu2 := Try.underlying25
 have hmx := Kd.C_max hr0
 have HR0 := aM hr0
 clear hr0
 go_enter Try.func19, Try.ntmps19
 go_wp2
 go_loopw [5, 6, 10] (fun _ _ v10 wr => ∃ i : Nat, i ≤ pts.length ∧ v10 = .int .i64 i ∧ Aside0 (Blks [(w.heap.size + 1 + 1, boxPt (boxSt pts i).2), (w.heap.size + 1, boxPt (boxSt pts i).1), (w.heap.size, .cells #[.slice A0 pts.length c0, v1] 25 (0, 0))] wr ∧ Below w.heap.size w wr))
  (fun _ _ v10 _ => pts.length - (intOf v10).toNat)
 case atStart => exact ⟨0, by omega, rfl, ⟨(((Blks.nil w).alloc _).alloc_at _ (by simp)).alloc_at _ (by simp), ((((Below.refl _ _).alloc (Nat.le_refl _) _).alloc (by simp) _).alloc (by simp; omega) _)⟩⟩
 case round =>
  obtain ⟨i, hi, rfl, ⟨HB, HW⟩⟩ := hrel
  have hlt2 := Lib.hid HB.lt
  by_cases hlt : i < pts.length
  ·
   obtain ⟨ad0, e0, hx0, hx1, hx2⟩ := at_T33 HR0.out (i : Int) (by omega) (by omega)
   cases e0
   replace hx0 := (HW.cell (World.block_lt_of_cell? w _ hx0)).trans hx0
   replace hx1 := (HW.cell (World.block_lt_of_cell? w _ hx1)).trans hx1
   replace hx2 := (HW.cell (World.block_lt_of_cell? w _ hx2)).trans hx2
   simp only [Int.toNat_natCast] at hx0 hx1 hx2
   have hsz : w.heap.size + 1 + 1 < wr.heap.size := hlt2.out _ (by simp)
   have HS := Lib.hid hsz
   clear hlt2 hsz
   by_cases hz : i = 0
   ·
    have hz' : ((i : Int) == 0) = true := by simpa using hz
    have HZ := Lib.hid hz
    clear hz
    go_wp2
    replace HB := (HB.alloc (.cells #[.int .i64 (rd_T33 pts i).f0, .int .i64 (rd_T33 pts i).f1, .bool (rd_T33 pts i).f2] 33))
    replace HW := (HW.alloc HW.size (.cells #[.int .i64 (rd_T33 pts i).f0, .int .i64 (rd_T33 pts i).f1, .bool (rd_T33 pts i).f2] 33))
    refine Go.Proofs.YtbmklpcheopgoaaReg.reg_inv (by rfl) [0, 1, 2, 3, 4, 5, 6, 7, 8, 9, 10, 11] (by kernel_rfl) (by kernel_rfl)
     (fun lst a W' => ∃ (b0 b1 b2 b3 b4 b5 b6 b7 b8 b9 b10 b11 : Bool), lst = #[b0, b1, b2, b3, b4, b5, b6, b7, b8, b9, b10, b11] ∧ a = ⟨#[.agg #[.slice (some ad0) pts.length c0, v1], .pointer (some ⟨w.heap.size, 0, none⟩), .pointer (some ⟨(w.heap.size + 1), 0, none⟩), .pointer (some ⟨(w.heap.size + 1 + 1), 0, none⟩), .bool false, .int .i64 i, .pointer (some ⟨wr.heap.size, 0, none⟩), .pointer (some ⟨w.heap.size, 0, none⟩), .slice (some ad0) pts.length c0, .int .i64 pts.length, .int .i64 i, .bool true, .int .i64 i, .pointer (some (ad0.add (i * 3))), .agg #[.int .i64 (rd_T33 pts i).f0, .int .i64 (rd_T33 pts i).f1, .bool (rd_T33 pts i).f2], .int .i64 i, .bool true, (cond b0 (.pointer (some ⟨wr.heap.size, 0, none⟩)) u17), (cond b1 (.int .i64 ((rd_T33 pts i).f0)) u18), (cond b2 (.pointer (some ⟨wr.heap.size, 1, none⟩)) u19), (cond b3 (.int .i64 ((rd_T33 pts i).f1)) u20), (cond b4 (.agg #[.int .i64 ((rd_T33 pts i).f0), .int .i64 ((rd_T33 pts i).f1), .bool false]) u21), (cond b5 (.pointer (some ⟨wr.heap.size, 0, none⟩)) u22), (cond b6 (.int .i64 ((rd_T33 pts i).f0)) u23), (cond b7 (.pointer (some ⟨wr.heap.size, 1, none⟩)) u24), (cond b8 (.int .i64 ((rd_T33 pts i).f1)) u25), (cond b9 (.agg #[.int .i64 ((rd_T33 pts i).f0), .int .i64 ((rd_T33 pts i).f1), .bool false]) u26), u27, u28, u29, u30, u31, u32, u33, u34, u35, u36, u37, u38, u39, u40, u41, u42, u43, u44, u45, u46, u47, u48, u49, u50, u51, undef, undef, undef, undef, undef, undef], []⟩ ∧ (Blks [(wr.heap.size, .cells #[.int .i64 ((rd_T33 pts i).f0), .int .i64 ((rd_T33 pts i).f1), .bool (rd_T33 pts i).f2] 33 (0, 0)), ((w.heap.size + 1 + 1), .cells #[cond b11 (.int .i64 ((rd_T33 pts i).f0)) (.int .i64 (boxSt pts i).2.f0), cond b11 (.int .i64 ((rd_T33 pts i).f1)) (.int .i64 (boxSt pts i).2.f1), cond b11 (.bool false) (.bool (boxSt pts i).2.f2)] 33 (0, 0)), ((w.heap.size + 1), .cells #[cond b10 (.int .i64 ((rd_T33 pts i).f0)) (.int .i64 (boxSt pts i).1.f0), cond b10 (.int .i64 ((rd_T33 pts i).f1)) (.int .i64 (boxSt pts i).1.f1), cond b10 (.bool false) (.bool (boxSt pts i).1.f2)] 33 (0, 0)), (w.heap.size, .cells #[.slice (some ad0) pts.length c0, v1] 25 (0, 0))] W') ∧ (Below w.heap.size w W')) ?_ ?_ ?_ ?_
    ·
     rintro lst a W' ⟨b0, b1, b2, b3, b4, b5, b6, b7, b8, b9, b10, b11, rfl, _⟩
     rfl
    ·
     exact ⟨false, false, false, false, false, false, false, false, false, false, false, false, rfl, rfl, HB.drew, below_drew HW⟩
    ·
     rintro lst a W' i o ⟨b0, b1, b2, b3, b4, b5, b6, b7, b8, b9, b10, b11, rfl, rfl, hHB, hHW⟩ ho hf hd K hK
     have hi : i < 12 := (Array.getElem?_eq_some_iff.1 ho).1
     have ho2 := ho
     rcases (show i = 0 ∨ i = 1 ∨ i = 2 ∨ i = 3 ∨ i = 4 ∨ i = 5 ∨ i = 6 ∨ i = 7 ∨ i = 8 ∨ i = 9 ∨ i = 10 ∨ i = 11 by omega) with rfl | rfl | rfl | rfl | rfl | rfl | rfl | rfl | rfl | rfl | rfl | rfl
     ·
      simp only [List.getElem?_toArray, List.getElem?_cons_succ, List.getElem?_cons_zero, Option.some.injEq] at ho
      subst ho
      replace hf : b0 = false := hf
      subst hf
      refine Go.Proofs.YtbmklpcheopgoaaReg.op_val ho2 rfl (v := .pointer (some ⟨wr.heap.size, 0, none⟩)) (w1 := W') ?_ (hK _ _ ⟨true, b1, b2, b3, b4, b5, b6, b7, b8, b9, b10, b11, rfl, rfl, hHB, hHW⟩)
      simp [go_sem, hu]
     ·
      simp only [List.getElem?_toArray, List.getElem?_cons_succ, List.getElem?_cons_zero, Option.some.injEq] at ho
      subst ho
      replace hf : b1 = false := hf
      have d0 : b0 = true := hd ⟨0, .data⟩ (by simp) rfl
      subst d0
      subst hf
      refine Go.Proofs.YtbmklpcheopgoaaReg.op_val ho2 rfl (v := .int .i64 ((rd_T33 pts i).f0)) (w1 := W') ?_ (hK _ _ ⟨true, true, b2, b3, b4, b5, b6, b7, b8, b9, b10, b11, rfl, rfl, hHB, hHW⟩)
      simp [go_sem, hu, (Blks.cell hHB 0 rfl 0)]
     ·
      simp only [List.getElem?_toArray, List.getElem?_cons_succ, List.getElem?_cons_zero, Option.some.injEq] at ho
      subst ho
      replace hf : b2 = false := hf
      subst hf
      refine Go.Proofs.YtbmklpcheopgoaaReg.op_val ho2 rfl (v := .pointer (some ⟨wr.heap.size, 1, none⟩)) (w1 := W') ?_ (hK _ _ ⟨b0, b1, true, b3, b4, b5, b6, b7, b8, b9, b10, b11, rfl, rfl, hHB, hHW⟩)
      simp [go_sem, hu]
     ·
      simp only [List.getElem?_toArray, List.getElem?_cons_succ, List.getElem?_cons_zero, Option.some.injEq] at ho
      subst ho
      replace hf : b3 = false := hf
      have d2 : b2 = true := hd ⟨2, .data⟩ (by simp) rfl
      subst d2
      subst hf
      refine Go.Proofs.YtbmklpcheopgoaaReg.op_val ho2 rfl (v := .int .i64 ((rd_T33 pts i).f1)) (w1 := W') ?_ (hK _ _ ⟨b0, b1, true, true, b4, b5, b6, b7, b8, b9, b10, b11, rfl, rfl, hHB, hHW⟩)
      simp [go_sem, hu, (Blks.cell hHB 0 rfl 1)]
     ·
      simp only [List.getElem?_toArray, List.getElem?_cons_succ, List.getElem?_cons_zero, Option.some.injEq] at ho
      subst ho
      replace hf : b4 = false := hf
      have d1 : b1 = true := hd ⟨1, .data⟩ (by simp) rfl
      have d3 : b3 = true := hd ⟨3, .data⟩ (by simp) rfl
      subst d1
      subst d3
      subst hf
      refine Go.Proofs.YtbmklpcheopgoaaReg.op_val ho2 rfl (v := .agg #[.int .i64 ((rd_T33 pts i).f0), .int .i64 ((rd_T33 pts i).f1), .bool false]) (w1 := W') ?_ (hK _ _ ⟨b0, true, b2, true, true, b5, b6, b7, b8, b9, b10, b11, rfl, rfl, hHB, hHW⟩)
      simp [go_sem, hu]
     ·
      simp only [List.getElem?_toArray, List.getElem?_cons_succ, List.getElem?_cons_zero, Option.some.injEq] at ho
      subst ho
      replace hf : b5 = false := hf
      subst hf
      refine Go.Proofs.YtbmklpcheopgoaaReg.op_val ho2 rfl (v := .pointer (some ⟨wr.heap.size, 0, none⟩)) (w1 := W') ?_ (hK _ _ ⟨b0, b1, b2, b3, b4, true, b6, b7, b8, b9, b10, b11, rfl, rfl, hHB, hHW⟩)
      simp [go_sem, hu]
     ·
      simp only [List.getElem?_toArray, List.getElem?_cons_succ, List.getElem?_cons_zero, Option.some.injEq] at ho
      subst ho
      replace hf : b6 = false := hf
      have d5 : b5 = true := hd ⟨5, .data⟩ (by simp) rfl
      subst d5
      subst hf
      refine Go.Proofs.YtbmklpcheopgoaaReg.op_val ho2 rfl (v := .int .i64 ((rd_T33 pts i).f0)) (w1 := W') ?_ (hK _ _ ⟨b0, b1, b2, b3, b4, true, true, b7, b8, b9, b10, b11, rfl, rfl, hHB, hHW⟩)
      simp [go_sem, hu, (Blks.cell hHB 0 rfl 0)]
     ·
      simp only [List.getElem?_toArray, List.getElem?_cons_succ, List.getElem?_cons_zero, Option.some.injEq] at ho
      subst ho
      replace hf : b7 = false := hf
      subst hf
      refine Go.Proofs.YtbmklpcheopgoaaReg.op_val ho2 rfl (v := .pointer (some ⟨wr.heap.size, 1, none⟩)) (w1 := W') ?_ (hK _ _ ⟨b0, b1, b2, b3, b4, b5, b6, true, b8, b9, b10, b11, rfl, rfl, hHB, hHW⟩)
      simp [go_sem, hu]
     ·
      simp only [List.getElem?_toArray, List.getElem?_cons_succ, List.getElem?_cons_zero, Option.some.injEq] at ho
      subst ho
      replace hf : b8 = false := hf
      have d7 : b7 = true := hd ⟨7, .data⟩ (by simp) rfl
      subst d7
      subst hf
      refine Go.Proofs.YtbmklpcheopgoaaReg.op_val ho2 rfl (v := .int .i64 ((rd_T33 pts i).f1)) (w1 := W') ?_ (hK _ _ ⟨b0, b1, b2, b3, b4, b5, b6, true, true, b9, b10, b11, rfl, rfl, hHB, hHW⟩)
      simp [go_sem, hu, (Blks.cell hHB 0 rfl 1)]
     ·
      simp only [List.getElem?_toArray, List.getElem?_cons_succ, List.getElem?_cons_zero, Option.some.injEq] at ho
      subst ho
      replace hf : b9 = false := hf
      have d6 : b6 = true := hd ⟨6, .data⟩ (by simp) rfl
      have d8 : b8 = true := hd ⟨8, .data⟩ (by simp) rfl
      subst d6
      subst d8
      subst hf
      refine Go.Proofs.YtbmklpcheopgoaaReg.op_val ho2 rfl (v := .agg #[.int .i64 ((rd_T33 pts i).f0), .int .i64 ((rd_T33 pts i).f1), .bool false]) (w1 := W') ?_ (hK _ _ ⟨b0, b1, b2, b3, b4, b5, true, b7, true, true, b10, b11, rfl, rfl, hHB, hHW⟩)
      simp [go_sem, hu]
     ·
      simp only [List.getElem?_toArray, List.getElem?_cons_succ, List.getElem?_cons_zero, Option.some.injEq] at ho
      subst ho
      replace hf : b10 = false := hf
      have d0 : b0 = true := hd ⟨0, .phase⟩ (by simp) rfl
      have d1 : b1 = true := hd ⟨1, .phase⟩ (by simp) rfl
      have d2 : b2 = true := hd ⟨2, .phase⟩ (by simp) rfl
      have d3 : b3 = true := hd ⟨3, .phase⟩ (by simp) rfl
      have d4 : b4 = true := hd ⟨4, .data⟩ (by simp) rfl
      subst d0
      subst d1
      subst d2
      subst d3
      subst d4
      subst hf
      refine Go.Proofs.YtbmklpcheopgoaaReg.op_skip ho2 rfl (w1 := (((W'.setCell ⟨(w.heap.size + 1), 0, none⟩ (.int .i64 ((rd_T33 pts i).f0))).setCell ⟨(w.heap.size + 1), 1, none⟩ (.int .i64 ((rd_T33 pts i).f1))).setCell ⟨(w.heap.size + 1), 2, none⟩ (.bool false))) ?_ (hK _ _ ⟨true, true, true, true, true, b5, b6, b7, b8, b9, true, b11, rfl, rfl, (Blks.set (Blks.set (Blks.set hHB 2 rfl 0 (.int .i64 ((rd_T33 pts i).f0))) 2 rfl 1 (.int .i64 ((rd_T33 pts i).f1))) 2 rfl 2 (.bool false)), (Below.setCell (Below.setCell (Below.setCell hHW (by dsimp only; omega) (.int .i64 ((rd_T33 pts i).f0))) (by dsimp only; omega) (.int .i64 ((rd_T33 pts i).f1))) (by dsimp only; omega) (.bool false))⟩)
      simp [go_sem, hu, (Blks.cell hHB 2 rfl 0), (Blks.cell hHB 2 rfl 1), (Blks.cell hHB 2 rfl 2), (Blks.free hHB 2 rfl 0), (Blks.free hHB 2 rfl 1), (Blks.free hHB 2 rfl 2)]
     ·
      simp only [List.getElem?_toArray, List.getElem?_cons_succ, List.getElem?_cons_zero, Option.some.injEq] at ho
      subst ho
      replace hf : b11 = false := hf
      have d0 : b0 = true := hd ⟨0, .phase⟩ (by simp) rfl
      have d1 : b1 = true := hd ⟨1, .phase⟩ (by simp) rfl
      have d2 : b2 = true := hd ⟨2, .phase⟩ (by simp) rfl
      have d3 : b3 = true := hd ⟨3, .phase⟩ (by simp) rfl
      have d4 : b4 = true := hd ⟨4, .phase⟩ (by simp) rfl
      have d5 : b5 = true := hd ⟨5, .phase⟩ (by simp) rfl
      have d6 : b6 = true := hd ⟨6, .phase⟩ (by simp) rfl
      have d7 : b7 = true := hd ⟨7, .phase⟩ (by simp) rfl
      have d8 : b8 = true := hd ⟨8, .phase⟩ (by simp) rfl
      have d9 : b9 = true := hd ⟨9, .data⟩ (by simp) rfl
      have d10 : b10 = true := hd ⟨10, .chain⟩ (by simp) rfl
      subst d0
      subst d1
      subst d2
      subst d3
      subst d4
      subst d5
      subst d6
      subst d7
      subst d8
      subst d9
      subst d10
      subst hf
      refine Go.Proofs.YtbmklpcheopgoaaReg.op_skip ho2 rfl (w1 := (((W'.setCell ⟨(w.heap.size + 1 + 1), 0, none⟩ (.int .i64 ((rd_T33 pts i).f0))).setCell ⟨(w.heap.size + 1 + 1), 1, none⟩ (.int .i64 ((rd_T33 pts i).f1))).setCell ⟨(w.heap.size + 1 + 1), 2, none⟩ (.bool false))) ?_ (hK _ _ ⟨true, true, true, true, true, true, true, true, true, true, true, true, rfl, rfl, (Blks.set (Blks.set (Blks.set hHB 1 rfl 0 (.int .i64 ((rd_T33 pts i).f0))) 1 rfl 1 (.int .i64 ((rd_T33 pts i).f1))) 1 rfl 2 (.bool false)), (Below.setCell (Below.setCell (Below.setCell hHW (by dsimp only; omega) (.int .i64 ((rd_T33 pts i).f0))) (by dsimp only; omega) (.int .i64 ((rd_T33 pts i).f1))) (by dsimp only; omega) (.bool false))⟩)
      simp [go_sem, hu, (Blks.cell hHB 1 rfl 0), (Blks.cell hHB 1 rfl 1), (Blks.cell hHB 1 rfl 2), (Blks.free hHB 1 rfl 0), (Blks.free hHB 1 rfl 1), (Blks.free hHB 1 rfl 2)]
    ·
     rintro lst a W' ⟨b0, b1, b2, b3, b4, b5, b6, b7, b8, b9, b10, b11, rfl, rfl, hHB, hHW⟩ hall
     have a0 : b0 = true := hall 0 (by decide)
     have a1 : b1 = true := hall 1 (by decide)
     have a2 : b2 = true := hall 2 (by decide)
     have a3 : b3 = true := hall 3 (by decide)
     have a4 : b4 = true := hall 4 (by decide)
     have a5 : b5 = true := hall 5 (by decide)
     have a6 : b6 = true := hall 6 (by decide)
     have a7 : b7 = true := hall 7 (by decide)
     have a8 : b8 = true := hall 8 (by decide)
     have a9 : b9 = true := hall 9 (by decide)
     have a10 : b10 = true := hall 10 (by decide)
     have a11 : b11 = true := hall 11 (by decide)
     subst a0 a1 a2 a3 a4 a5 a6 a7 a8 a9 a10 a11
     clear hall
     have HB : Blks [(wr.heap.size, .cells #[.int .i64 ((rd_T33 pts i).f0), .int .i64 ((rd_T33 pts i).f1), .bool (rd_T33 pts i).f2] 33 (0, 0)), ((w.heap.size + 1 + 1), .cells #[.int .i64 ((rd_T33 pts i).f0), .int .i64 ((rd_T33 pts i).f1), .bool false] 33 (0, 0)), ((w.heap.size + 1), .cells #[.int .i64 ((rd_T33 pts i).f0), .int .i64 ((rd_T33 pts i).f1), .bool false] 33 (0, 0)), (w.heap.size, .cells #[.slice (some ad0) pts.length c0, v1] 25 (0, 0))] W' := hHB
     have HW : Below w.heap.size w W' := hHW
     clear hHB hHW
     go_wp2
     refine Go.Proofs.YtbmklpcheopgoaaReg.reg_inv (by rfl) [0, 1, 2, 3, 4, 5, 6, 7, 8, 9, 10, 11, 12, 13] (by kernel_rfl) (by kernel_rfl)
      (fun lst a W' => ∃ (b0 b1 b2 b3 b4 b5 b6 b7 b8 b9 b10 b11 b12 b13 : Bool), lst = #[b0, b1, b2, b3, b4, b5, b6, b7, b8, b9, b10, b11, b12, b13] ∧ a = ⟨#[.agg #[.slice (some ad0) pts.length c0, v1], .pointer (some ⟨w.heap.size, 0, none⟩), .pointer (some ⟨(w.heap.size + 1), 0, none⟩), .pointer (some ⟨(w.heap.size + 1 + 1), 0, none⟩), .bool false, .int .i64 i, .pointer (some ⟨wr.heap.size, 0, none⟩), .pointer (some ⟨w.heap.size, 0, none⟩), .slice (some ad0) pts.length c0, .int .i64 pts.length, .int .i64 i, .bool true, .int .i64 i, .pointer (some (ad0.add (i * 3))), .agg #[.int .i64 (rd_T33 pts i).f0, .int .i64 (rd_T33 pts i).f1, .bool (rd_T33 pts i).f2], .int .i64 i, .bool true, .pointer (some ⟨wr.heap.size, 0, none⟩), .int .i64 ((rd_T33 pts i).f0), .pointer (some ⟨wr.heap.size, 1, none⟩), .int .i64 ((rd_T33 pts i).f1), .agg #[.int .i64 ((rd_T33 pts i).f0), .int .i64 ((rd_T33 pts i).f1), .bool false], .pointer (some ⟨wr.heap.size, 0, none⟩), .int .i64 ((rd_T33 pts i).f0), .pointer (some ⟨wr.heap.size, 1, none⟩), .int .i64 ((rd_T33 pts i).f1), .agg #[.int .i64 ((rd_T33 pts i).f0), .int .i64 ((rd_T33 pts i).f1), .bool false], (cond b0 (.pointer (some ⟨(w.heap.size + 1), 0, none⟩)) u27), (cond b1 (.int .i64 ((rd_T33 pts i).f0)) u28), (cond b2 (.pointer (some ⟨wr.heap.size, 0, none⟩)) u29), (cond b3 (.int .i64 ((rd_T33 pts i).f0)) u30), (cond b4 (.int .i64 (min ((rd_T33 pts i).f0) ((rd_T33 pts i).f0))) u31), (cond b5 (.pointer (some ⟨(w.heap.size + 1), 1, none⟩)) u32), (cond b6 (.int .i64 ((rd_T33 pts i).f1)) u33), (cond b7 (.pointer (some ⟨wr.heap.size, 1, none⟩)) u34), (cond b8 (.int .i64 ((rd_T33 pts i).f1)) u35), (cond b9 (.int .i64 (min ((rd_T33 pts i).f1) ((rd_T33 pts i).f1))) u36), (cond b10 (.pointer (some ⟨(w.heap.size + 1), 0, none⟩)) u37), (cond b12 (.pointer (some ⟨(w.heap.size + 1), 1, none⟩)) u38), u39, u40, u41, u42, u43, u44, u45, u46, u47, u48, u49, u50, u51, undef, undef, undef, undef, undef, undef], []⟩ ∧ (b11 = true → b1 = true) ∧ (b13 = true → b6 = true) ∧ (Blks [(wr.heap.size, .cells #[.int .i64 ((rd_T33 pts i).f0), .int .i64 ((rd_T33 pts i).f1), .bool (rd_T33 pts i).f2] 33 (0, 0)), ((w.heap.size + 1 + 1), .cells #[.int .i64 ((rd_T33 pts i).f0), .int .i64 ((rd_T33 pts i).f1), .bool false] 33 (0, 0)), ((w.heap.size + 1), .cells #[cond b11 (.int .i64 (min ((rd_T33 pts i).f0) ((rd_T33 pts i).f0))) (.int .i64 ((rd_T33 pts i).f0)), cond b13 (.int .i64 (min ((rd_T33 pts i).f1) ((rd_T33 pts i).f1))) (.int .i64 ((rd_T33 pts i).f1)), .bool false] 33 (0, 0)), (w.heap.size, .cells #[.slice (some ad0) pts.length c0, v1] 25 (0, 0))] W') ∧ (Below w.heap.size w W')) ?_ ?_ ?_ ?_
     ·
      rintro lst a W' ⟨b0, b1, b2, b3, b4, b5, b6, b7, b8, b9, b10, b11, b12, b13, rfl, _⟩
      rfl
     ·
      exact ⟨false, false, false, false, false, false, false, false, false, false, false, false, false, false, rfl, rfl, (fun h => Bool.noConfusion h), (fun h => Bool.noConfusion h), HB.drew, below_drew HW⟩
     ·
      rintro lst a W' i o ⟨b0, b1, b2, b3, b4, b5, b6, b7, b8, b9, b10, b11, b12, b13, rfl, rfl, k0, k1, hHB, hHW⟩ ho hf hd K hK
      have hi : i < 14 := (Array.getElem?_eq_some_iff.1 ho).1
      have ho2 := ho
      rcases (show i = 0 ∨ i = 1 ∨ i = 2 ∨ i = 3 ∨ i = 4 ∨ i = 5 ∨ i = 6 ∨ i = 7 ∨ i = 8 ∨ i = 9 ∨ i = 10 ∨ i = 11 ∨ i = 12 ∨ i = 13 by omega) with rfl | rfl | rfl | rfl | rfl | rfl | rfl | rfl | rfl | rfl | rfl | rfl | rfl | rfl
      ·
       simp only [List.getElem?_toArray, List.getElem?_cons_succ, List.getElem?_cons_zero, Option.some.injEq] at ho
       subst ho
       replace hf : b0 = false := hf
       subst hf
       refine Go.Proofs.YtbmklpcheopgoaaReg.op_val ho2 rfl (v := .pointer (some ⟨(w.heap.size + 1), 0, none⟩)) (w1 := W') ?_ (hK _ _ ⟨true, b1, b2, b3, b4, b5, b6, b7, b8, b9, b10, b11, b12, b13, rfl, rfl, (k0), (k1), hHB, hHW⟩)
       simp [go_sem, hu]
      ·
       simp only [List.getElem?_toArray, List.getElem?_cons_succ, List.getElem?_cons_zero, Option.some.injEq] at ho
       subst ho
       replace hf : b1 = false := hf
       have d0 : b0 = true := hd ⟨0, .data⟩ (by simp) rfl
       subst d0
       have n11 : b11 = false := Bool.eq_false_iff.mpr (fun h => absurd (k0 h) (by rw [hf]; decide))
       subst n11
       subst hf
       refine Go.Proofs.YtbmklpcheopgoaaReg.op_val ho2 rfl (v := .int .i64 ((rd_T33 pts i).f0)) (w1 := W') ?_ (hK _ _ ⟨true, true, b2, b3, b4, b5, b6, b7, b8, b9, b10, false, b12, b13, rfl, rfl, (fun _ => rfl), (k1), hHB, hHW⟩)
       simp [go_sem, hu, (Blks.cell hHB 2 rfl 0)]
      ·
       simp only [List.getElem?_toArray, List.getElem?_cons_succ, List.getElem?_cons_zero, Option.some.injEq] at ho
       subst ho
       replace hf : b2 = false := hf
       subst hf
       refine Go.Proofs.YtbmklpcheopgoaaReg.op_val ho2 rfl (v := .pointer (some ⟨wr.heap.size, 0, none⟩)) (w1 := W') ?_ (hK _ _ ⟨b0, b1, true, b3, b4, b5, b6, b7, b8, b9, b10, b11, b12, b13, rfl, rfl, (k0), (k1), hHB, hHW⟩)
       simp [go_sem, hu]
      ·
       simp only [List.getElem?_toArray, List.getElem?_cons_succ, List.getElem?_cons_zero, Option.some.injEq] at ho
       subst ho
       replace hf : b3 = false := hf
       have d2 : b2 = true := hd ⟨2, .data⟩ (by simp) rfl
       subst d2
       subst hf
       refine Go.Proofs.YtbmklpcheopgoaaReg.op_val ho2 rfl (v := .int .i64 ((rd_T33 pts i).f0)) (w1 := W') ?_ (hK _ _ ⟨b0, b1, true, true, b4, b5, b6, b7, b8, b9, b10, b11, b12, b13, rfl, rfl, (k0), (k1), hHB, hHW⟩)
       simp [go_sem, hu, (Blks.cell hHB 0 rfl 0)]
      ·
       simp only [List.getElem?_toArray, List.getElem?_cons_succ, List.getElem?_cons_zero, Option.some.injEq] at ho
       subst ho
       replace hf : b4 = false := hf
       have d1 : b1 = true := hd ⟨1, .data⟩ (by simp) rfl
       have d3 : b3 = true := hd ⟨3, .data⟩ (by simp) rfl
       subst d1
       subst d3
       subst hf
       refine Go.Proofs.YtbmklpcheopgoaaReg.op_val ho2 rfl (v := .int .i64 (min ((rd_T33 pts i).f0) ((rd_T33 pts i).f0))) (w1 := W') ?_ (hK _ _ ⟨b0, true, b2, true, true, b5, b6, b7, b8, b9, b10, b11, b12, b13, rfl, rfl, (fun _ => rfl), (k1), hHB, hHW⟩)
       simp [go_sem, hu] <;> omega
      ·
       simp only [List.getElem?_toArray, List.getElem?_cons_succ, List.getElem?_cons_zero, Option.some.injEq] at ho
       subst ho
       replace hf : b5 = false := hf
       subst hf
       refine Go.Proofs.YtbmklpcheopgoaaReg.op_val ho2 rfl (v := .pointer (some ⟨(w.heap.size + 1), 1, none⟩)) (w1 := W') ?_ (hK _ _ ⟨b0, b1, b2, b3, b4, true, b6, b7, b8, b9, b10, b11, b12, b13, rfl, rfl, (k0), (k1), hHB, hHW⟩)
       simp [go_sem, hu]
      ·
       simp only [List.getElem?_toArray, List.getElem?_cons_succ, List.getElem?_cons_zero, Option.some.injEq] at ho
       subst ho
       replace hf : b6 = false := hf
       have d5 : b5 = true := hd ⟨5, .data⟩ (by simp) rfl
       subst d5
       have n13 : b13 = false := Bool.eq_false_iff.mpr (fun h => absurd (k1 h) (by rw [hf]; decide))
       subst n13
       subst hf
       refine Go.Proofs.YtbmklpcheopgoaaReg.op_val ho2 rfl (v := .int .i64 ((rd_T33 pts i).f1)) (w1 := W') ?_ (hK _ _ ⟨b0, b1, b2, b3, b4, true, true, b7, b8, b9, b10, b11, b12, false, rfl, rfl, (k0), (fun _ => rfl), hHB, hHW⟩)
       simp [go_sem, hu, (Blks.cell hHB 2 rfl 1)]
      ·
       simp only [List.getElem?_toArray, List.getElem?_cons_succ, List.getElem?_cons_zero, Option.some.injEq] at ho
       subst ho
       replace hf : b7 = false := hf
       subst hf
       refine Go.Proofs.YtbmklpcheopgoaaReg.op_val ho2 rfl (v := .pointer (some ⟨wr.heap.size, 1, none⟩)) (w1 := W') ?_ (hK _ _ ⟨b0, b1, b2, b3, b4, b5, b6, true, b8, b9, b10, b11, b12, b13, rfl, rfl, (k0), (k1), hHB, hHW⟩)
       simp [go_sem, hu]
      ·
       simp only [List.getElem?_toArray, List.getElem?_cons_succ, List.getElem?_cons_zero, Option.some.injEq] at ho
       subst ho
       replace hf : b8 = false := hf
       have d7 : b7 = true := hd ⟨7, .data⟩ (by simp) rfl
       subst d7
       subst hf
       refine Go.Proofs.YtbmklpcheopgoaaReg.op_val ho2 rfl (v := .int .i64 ((rd_T33 pts i).f1)) (w1 := W') ?_ (hK _ _ ⟨b0, b1, b2, b3, b4, b5, b6, true, true, b9, b10, b11, b12, b13, rfl, rfl, (k0), (k1), hHB, hHW⟩)
       simp [go_sem, hu, (Blks.cell hHB 0 rfl 1)]
      ·
       simp only [List.getElem?_toArray, List.getElem?_cons_succ, List.getElem?_cons_zero, Option.some.injEq] at ho
       subst ho
       replace hf : b9 = false := hf
       have d6 : b6 = true := hd ⟨6, .data⟩ (by simp) rfl
       have d8 : b8 = true := hd ⟨8, .data⟩ (by simp) rfl
       subst d6
       subst d8
       subst hf
       refine Go.Proofs.YtbmklpcheopgoaaReg.op_val ho2 rfl (v := .int .i64 (min ((rd_T33 pts i).f1) ((rd_T33 pts i).f1))) (w1 := W') ?_ (hK _ _ ⟨b0, b1, b2, b3, b4, b5, true, b7, true, true, b10, b11, b12, b13, rfl, rfl, (k0), (fun _ => rfl), hHB, hHW⟩)
       simp [go_sem, hu] <;> omega
      ·
       simp only [List.getElem?_toArray, List.getElem?_cons_succ, List.getElem?_cons_zero, Option.some.injEq] at ho
       subst ho
       replace hf : b10 = false := hf
       have d0 : b0 = true := hd ⟨0, .phase⟩ (by simp) rfl
       have d1 : b1 = true := hd ⟨1, .phase⟩ (by simp) rfl
       have d2 : b2 = true := hd ⟨2, .phase⟩ (by simp) rfl
       have d3 : b3 = true := hd ⟨3, .phase⟩ (by simp) rfl
       have d4 : b4 = true := hd ⟨4, .phase⟩ (by simp) rfl
       have d5 : b5 = true := hd ⟨5, .phase⟩ (by simp) rfl
       have d6 : b6 = true := hd ⟨6, .phase⟩ (by simp) rfl
       subst d0
       subst d1
       subst d2
       subst d3
       subst d4
       subst d5
       subst d6
       subst hf
       refine Go.Proofs.YtbmklpcheopgoaaReg.op_val ho2 rfl (v := .pointer (some ⟨(w.heap.size + 1), 0, none⟩)) (w1 := W') ?_ (hK _ _ ⟨true, true, true, true, true, true, true, b7, b8, b9, true, b11, b12, b13, rfl, rfl, (fun _ => rfl), (fun _ => rfl), hHB, hHW⟩)
       simp [go_sem, hu]
      ·
       simp only [List.getElem?_toArray, List.getElem?_cons_succ, List.getElem?_cons_zero, Option.some.injEq] at ho
       subst ho
       replace hf : b11 = false := hf
       have d0 : b0 = true := hd ⟨0, .phase⟩ (by simp) rfl
       have d1 : b1 = true := hd ⟨1, .phase⟩ (by simp) rfl
       have d2 : b2 = true := hd ⟨2, .phase⟩ (by simp) rfl
       have d3 : b3 = true := hd ⟨3, .phase⟩ (by simp) rfl
       have d4 : b4 = true := hd ⟨4, .data⟩ (by simp) rfl
       have d5 : b5 = true := hd ⟨5, .phase⟩ (by simp) rfl
       have d6 : b6 = true := hd ⟨6, .phase⟩ (by simp) rfl
       have d10 : b10 = true := hd ⟨10, .data⟩ (by simp) rfl
       subst d0
       subst d1
       subst d2
       subst d3
       subst d4
       subst d5
       subst d6
       subst d10
       subst hf
       refine Go.Proofs.YtbmklpcheopgoaaReg.op_skip ho2 rfl (w1 := W'.setCell ⟨(w.heap.size + 1), 0, none⟩ (.int .i64 (min ((rd_T33 pts i).f0) ((rd_T33 pts i).f0)))) ?_ (hK _ _ ⟨true, true, true, true, true, true, true, b7, b8, b9, true, true, b12, b13, rfl, rfl, (fun _ => rfl), (fun _ => rfl), Blks.set hHB 2 rfl 0 (.int .i64 (min ((rd_T33 pts i).f0) ((rd_T33 pts i).f0))), (Below.setCell hHW (by dsimp only; omega) (.int .i64 (min ((rd_T33 pts i).f0) ((rd_T33 pts i).f0))))⟩)
       simp [go_sem, hu, (Blks.cell hHB 2 rfl 0), (Blks.free hHB 2 rfl 0)]
      ·
       simp only [List.getElem?_toArray, List.getElem?_cons_succ, List.getElem?_cons_zero, Option.some.injEq] at ho
       subst ho
       replace hf : b12 = false := hf
       have d0 : b0 = true := hd ⟨0, .phase⟩ (by simp) rfl
       have d1 : b1 = true := hd ⟨1, .phase⟩ (by simp) rfl
       have d2 : b2 = true := hd ⟨2, .phase⟩ (by simp) rfl
       have d3 : b3 = true := hd ⟨3, .phase⟩ (by simp) rfl
       have d4 : b4 = true := hd ⟨4, .phase⟩ (by simp) rfl
       have d5 : b5 = true := hd ⟨5, .phase⟩ (by simp) rfl
       have d6 : b6 = true := hd ⟨6, .phase⟩ (by simp) rfl
       have d7 : b7 = true := hd ⟨7, .phase⟩ (by simp) rfl
       have d8 : b8 = true := hd ⟨8, .phase⟩ (by simp) rfl
       have d9 : b9 = true := hd ⟨9, .phase⟩ (by simp) rfl
       have d10 : b10 = true := hd ⟨10, .phase⟩ (by simp) rfl
       have d11 : b11 = true := hd ⟨11, .phase⟩ (by simp) rfl
       subst d0
       subst d1
       subst d2
       subst d3
       subst d4
       subst d5
       subst d6
       subst d7
       subst d8
       subst d9
       subst d10
       subst d11
       subst hf
       refine Go.Proofs.YtbmklpcheopgoaaReg.op_val ho2 rfl (v := .pointer (some ⟨(w.heap.size + 1), 1, none⟩)) (w1 := W') ?_ (hK _ _ ⟨true, true, true, true, true, true, true, true, true, true, true, true, true, b13, rfl, rfl, (fun _ => rfl), (fun _ => rfl), hHB, hHW⟩)
       simp [go_sem, hu]
      ·
       simp only [List.getElem?_toArray, List.getElem?_cons_succ, List.getElem?_cons_zero, Option.some.injEq] at ho
       subst ho
       replace hf : b13 = false := hf
       have d0 : b0 = true := hd ⟨0, .phase⟩ (by simp) rfl
       have d1 : b1 = true := hd ⟨1, .phase⟩ (by simp) rfl
       have d2 : b2 = true := hd ⟨2, .phase⟩ (by simp) rfl
       have d3 : b3 = true := hd ⟨3, .phase⟩ (by simp) rfl
       have d4 : b4 = true := hd ⟨4, .phase⟩ (by simp) rfl
       have d5 : b5 = true := hd ⟨5, .phase⟩ (by simp) rfl
       have d6 : b6 = true := hd ⟨6, .phase⟩ (by simp) rfl
       have d7 : b7 = true := hd ⟨7, .phase⟩ (by simp) rfl
       have d8 : b8 = true := hd ⟨8, .phase⟩ (by simp) rfl
       have d9 : b9 = true := hd ⟨9, .data⟩ (by simp) rfl
       have d10 : b10 = true := hd ⟨10, .phase⟩ (by simp) rfl
       have d11 : b11 = true := hd ⟨11, .chain⟩ (by simp) rfl
       have d12 : b12 = true := hd ⟨12, .data⟩ (by simp) rfl
       subst d0
       subst d1
       subst d2
       subst d3
       subst d4
       subst d5
       subst d6
       subst d7
       subst d8
       subst d9
       subst d10
       subst d11
       subst d12
       subst hf
       refine Go.Proofs.YtbmklpcheopgoaaReg.op_skip ho2 rfl (w1 := W'.setCell ⟨(w.heap.size + 1), 1, none⟩ (.int .i64 (min ((rd_T33 pts i).f1) ((rd_T33 pts i).f1)))) ?_ (hK _ _ ⟨true, true, true, true, true, true, true, true, true, true, true, true, true, true, rfl, rfl, (fun _ => rfl), (fun _ => rfl), Blks.set hHB 2 rfl 1 (.int .i64 (min ((rd_T33 pts i).f1) ((rd_T33 pts i).f1))), (Below.setCell hHW (by dsimp only; omega) (.int .i64 (min ((rd_T33 pts i).f1) ((rd_T33 pts i).f1))))⟩)
       simp [go_sem, hu, (Blks.cell hHB 2 rfl 1), (Blks.free hHB 2 rfl 1)]
     ·
      rintro lst a W' ⟨b0, b1, b2, b3, b4, b5, b6, b7, b8, b9, b10, b11, b12, b13, rfl, rfl, k0, k1, hHB, hHW⟩ hall
      have a0 : b0 = true := hall 0 (by decide)
      have a1 : b1 = true := hall 1 (by decide)
      have a2 : b2 = true := hall 2 (by decide)
      have a3 : b3 = true := hall 3 (by decide)
      have a4 : b4 = true := hall 4 (by decide)
      have a5 : b5 = true := hall 5 (by decide)
      have a6 : b6 = true := hall 6 (by decide)
      have a7 : b7 = true := hall 7 (by decide)
      have a8 : b8 = true := hall 8 (by decide)
      have a9 : b9 = true := hall 9 (by decide)
      have a10 : b10 = true := hall 10 (by decide)
      have a11 : b11 = true := hall 11 (by decide)
      have a12 : b12 = true := hall 12 (by decide)
      have a13 : b13 = true := hall 13 (by decide)
      subst a0 a1 a2 a3 a4 a5 a6 a7 a8 a9 a10 a11 a12 a13
      clear k0 k1
      clear hall
      have HB : Blks [(wr.heap.size, .cells #[.int .i64 ((rd_T33 pts i).f0), .int .i64 ((rd_T33 pts i).f1), .bool (rd_T33 pts i).f2] 33 (0, 0)), ((w.heap.size + 1 + 1), .cells #[.int .i64 ((rd_T33 pts i).f0), .int .i64 ((rd_T33 pts i).f1), .bool false] 33 (0, 0)), ((w.heap.size + 1), .cells #[.int .i64 (min ((rd_T33 pts i).f0) ((rd_T33 pts i).f0)), .int .i64 (min ((rd_T33 pts i).f1) ((rd_T33 pts i).f1)), .bool false] 33 (0, 0)), (w.heap.size, .cells #[.slice (some ad0) pts.length c0, v1] 25 (0, 0))] W' := hHB
      have HW : Below w.heap.size w W' := hHW
      clear hHB hHW
      go_wp2
      refine Go.Proofs.YtbmklpcheopgoaaReg.reg_inv (by rfl) [0, 1, 2, 3, 4, 5, 6, 7, 8, 9, 10, 11, 12, 13] (by kernel_rfl) (by kernel_rfl)
       (fun lst a W' => ∃ (b0 b1 b2 b3 b4 b5 b6 b7 b8 b9 b10 b11 b12 b13 : Bool), lst = #[b0, b1, b2, b3, b4, b5, b6, b7, b8, b9, b10, b11, b12, b13] ∧ a = ⟨#[.agg #[.slice (some ad0) pts.length c0, v1], .pointer (some ⟨w.heap.size, 0, none⟩), .pointer (some ⟨(w.heap.size + 1), 0, none⟩), .pointer (some ⟨(w.heap.size + 1 + 1), 0, none⟩), .bool false, .int .i64 i, .pointer (some ⟨wr.heap.size, 0, none⟩), .pointer (some ⟨w.heap.size, 0, none⟩), .slice (some ad0) pts.length c0, .int .i64 pts.length, .int .i64 i, .bool true, .int .i64 i, .pointer (some (ad0.add (i * 3))), .agg #[.int .i64 (rd_T33 pts i).f0, .int .i64 (rd_T33 pts i).f1, .bool (rd_T33 pts i).f2], .int .i64 i, .bool true, .pointer (some ⟨wr.heap.size, 0, none⟩), .int .i64 ((rd_T33 pts i).f0), .pointer (some ⟨wr.heap.size, 1, none⟩), .int .i64 ((rd_T33 pts i).f1), .agg #[.int .i64 ((rd_T33 pts i).f0), .int .i64 ((rd_T33 pts i).f1), .bool false], .pointer (some ⟨wr.heap.size, 0, none⟩), .int .i64 ((rd_T33 pts i).f0), .pointer (some ⟨wr.heap.size, 1, none⟩), .int .i64 ((rd_T33 pts i).f1), .agg #[.int .i64 ((rd_T33 pts i).f0), .int .i64 ((rd_T33 pts i).f1), .bool false], .pointer (some ⟨(w.heap.size + 1), 0, none⟩), .int .i64 ((rd_T33 pts i).f0), .pointer (some ⟨wr.heap.size, 0, none⟩), .int .i64 ((rd_T33 pts i).f0), .int .i64 (min ((rd_T33 pts i).f0) ((rd_T33 pts i).f0)), .pointer (some ⟨(w.heap.size + 1), 1, none⟩), .int .i64 ((rd_T33 pts i).f1), .pointer (some ⟨wr.heap.size, 1, none⟩), .int .i64 ((rd_T33 pts i).f1), .int .i64 (min ((rd_T33 pts i).f1) ((rd_T33 pts i).f1)), .pointer (some ⟨(w.heap.size + 1), 0, none⟩), .pointer (some ⟨(w.heap.size + 1), 1, none⟩), (cond b0 (.pointer (some ⟨(w.heap.size + 1 + 1), 0, none⟩)) u39), (cond b1 (.int .i64 ((rd_T33 pts i).f0)) u40), (cond b2 (.pointer (some ⟨wr.heap.size, 0, none⟩)) u41), (cond b3 (.int .i64 ((rd_T33 pts i).f0)) u42), (cond b4 (.int .i64 (max ((rd_T33 pts i).f0) ((rd_T33 pts i).f0))) u43), (cond b5 (.pointer (some ⟨(w.heap.size + 1 + 1), 1, none⟩)) u44), (cond b6 (.int .i64 ((rd_T33 pts i).f1)) u45), (cond b7 (.pointer (some ⟨wr.heap.size, 1, none⟩)) u46), (cond b8 (.int .i64 ((rd_T33 pts i).f1)) u47), (cond b9 (.int .i64 (max ((rd_T33 pts i).f1) ((rd_T33 pts i).f1))) u48), (cond b10 (.pointer (some ⟨(w.heap.size + 1 + 1), 0, none⟩)) u49), (cond b12 (.pointer (some ⟨(w.heap.size + 1 + 1), 1, none⟩)) u50), u51, undef, undef, undef, undef, undef, undef], []⟩ ∧ (b11 = true → b1 = true) ∧ (b13 = true → b6 = true) ∧ (Blks [(wr.heap.size, .cells #[.int .i64 ((rd_T33 pts i).f0), .int .i64 ((rd_T33 pts i).f1), .bool (rd_T33 pts i).f2] 33 (0, 0)), ((w.heap.size + 1 + 1), .cells #[cond b11 (.int .i64 (max ((rd_T33 pts i).f0) ((rd_T33 pts i).f0))) (.int .i64 ((rd_T33 pts i).f0)), cond b13 (.int .i64 (max ((rd_T33 pts i).f1) ((rd_T33 pts i).f1))) (.int .i64 ((rd_T33 pts i).f1)), .bool false] 33 (0, 0)), ((w.heap.size + 1), .cells #[.int .i64 (min ((rd_T33 pts i).f0) ((rd_T33 pts i).f0)), .int .i64 (min ((rd_T33 pts i).f1) ((rd_T33 pts i).f1)), .bool false] 33 (0, 0)), (w.heap.size, .cells #[.slice (some ad0) pts.length c0, v1] 25 (0, 0))] W') ∧ (Below w.heap.size w W')) ?_ ?_ ?_ ?_
      ·
       rintro lst a W' ⟨b0, b1, b2, b3, b4, b5, b6, b7, b8, b9, b10, b11, b12, b13, rfl, _⟩
       rfl
      ·
       exact ⟨false, false, false, false, false, false, false, false, false, false, false, false, false, false, rfl, rfl, (fun h => Bool.noConfusion h), (fun h => Bool.noConfusion h), HB.drew, below_drew HW⟩
      ·
       rintro lst a W' i o ⟨b0, b1, b2, b3, b4, b5, b6, b7, b8, b9, b10, b11, b12, b13, rfl, rfl, k0, k1, hHB, hHW⟩ ho hf hd K hK
       have hi : i < 14 := (Array.getElem?_eq_some_iff.1 ho).1
       have ho2 := ho
       rcases (show i = 0 ∨ i = 1 ∨ i = 2 ∨ i = 3 ∨ i = 4 ∨ i = 5 ∨ i = 6 ∨ i = 7 ∨ i = 8 ∨ i = 9 ∨ i = 10 ∨ i = 11 ∨ i = 12 ∨ i = 13 by omega) with rfl | rfl | rfl | rfl | rfl | rfl | rfl | rfl | rfl | rfl | rfl | rfl | rfl | rfl
       ·
        simp only [List.getElem?_toArray, List.getElem?_cons_succ, List.getElem?_cons_zero, Option.some.injEq] at ho
        subst ho
        replace hf : b0 = false := hf
        subst hf
        refine Go.Proofs.YtbmklpcheopgoaaReg.op_val ho2 rfl (v := .pointer (some ⟨(w.heap.size + 1 + 1), 0, none⟩)) (w1 := W') ?_ (hK _ _ ⟨true, b1, b2, b3, b4, b5, b6, b7, b8, b9, b10, b11, b12, b13, rfl, rfl, (k0), (k1), hHB, hHW⟩)
        simp [go_sem, hu]
       ·
        simp only [List.getElem?_toArray, List.getElem?_cons_succ, List.getElem?_cons_zero, Option.some.injEq] at ho
        subst ho
        replace hf : b1 = false := hf
        have d0 : b0 = true := hd ⟨0, .data⟩ (by simp) rfl
        subst d0
        have n11 : b11 = false := Bool.eq_false_iff.mpr (fun h => absurd (k0 h) (by rw [hf]; decide))
        subst n11
        subst hf
        refine Go.Proofs.YtbmklpcheopgoaaReg.op_val ho2 rfl (v := .int .i64 ((rd_T33 pts i).f0)) (w1 := W') ?_ (hK _ _ ⟨true, true, b2, b3, b4, b5, b6, b7, b8, b9, b10, false, b12, b13, rfl, rfl, (fun _ => rfl), (k1), hHB, hHW⟩)
        simp [go_sem, hu, (Blks.cell hHB 1 rfl 0)]
       ·
        simp only [List.getElem?_toArray, List.getElem?_cons_succ, List.getElem?_cons_zero, Option.some.injEq] at ho
        subst ho
        replace hf : b2 = false := hf
        subst hf
        refine Go.Proofs.YtbmklpcheopgoaaReg.op_val ho2 rfl (v := .pointer (some ⟨wr.heap.size, 0, none⟩)) (w1 := W') ?_ (hK _ _ ⟨b0, b1, true, b3, b4, b5, b6, b7, b8, b9, b10, b11, b12, b13, rfl, rfl, (k0), (k1), hHB, hHW⟩)
        simp [go_sem, hu]
       ·
        simp only [List.getElem?_toArray, List.getElem?_cons_succ, List.getElem?_cons_zero, Option.some.injEq] at ho
        subst ho
        replace hf : b3 = false := hf
        have d2 : b2 = true := hd ⟨2, .data⟩ (by simp) rfl
        subst d2
        subst hf
        refine Go.Proofs.YtbmklpcheopgoaaReg.op_val ho2 rfl (v := .int .i64 ((rd_T33 pts i).f0)) (w1 := W') ?_ (hK _ _ ⟨b0, b1, true, true, b4, b5, b6, b7, b8, b9, b10, b11, b12, b13, rfl, rfl, (k0), (k1), hHB, hHW⟩)
        simp [go_sem, hu, (Blks.cell hHB 0 rfl 0)]
       ·
        simp only [List.getElem?_toArray, List.getElem?_cons_succ, List.getElem?_cons_zero, Option.some.injEq] at ho
        subst ho
        replace hf : b4 = false := hf
        have d1 : b1 = true := hd ⟨1, .data⟩ (by simp) rfl
        have d3 : b3 = true := hd ⟨3, .data⟩ (by simp) rfl
        subst d1
        subst d3
        subst hf
        refine Go.Proofs.YtbmklpcheopgoaaReg.op_val ho2 rfl (v := .int .i64 (max ((rd_T33 pts i).f0) ((rd_T33 pts i).f0))) (w1 := W') ?_ (hK _ _ ⟨b0, true, b2, true, true, b5, b6, b7, b8, b9, b10, b11, b12, b13, rfl, rfl, (fun _ => rfl), (k1), hHB, hHW⟩)
        simp [go_sem, hu] <;> omega
       ·
        simp only [List.getElem?_toArray, List.getElem?_cons_succ, List.getElem?_cons_zero, Option.some.injEq] at ho
        subst ho
        replace hf : b5 = false := hf
        subst hf
        refine Go.Proofs.YtbmklpcheopgoaaReg.op_val ho2 rfl (v := .pointer (some ⟨(w.heap.size + 1 + 1), 1, none⟩)) (w1 := W') ?_ (hK _ _ ⟨b0, b1, b2, b3, b4, true, b6, b7, b8, b9, b10, b11, b12, b13, rfl, rfl, (k0), (k1), hHB, hHW⟩)
        simp [go_sem, hu]
       ·
        simp only [List.getElem?_toArray, List.getElem?_cons_succ, List.getElem?_cons_zero, Option.some.injEq] at ho
        subst ho
        replace hf : b6 = false := hf
        have d5 : b5 = true := hd ⟨5, .data⟩ (by simp) rfl
        subst d5
        have n13 : b13 = false := Bool.eq_false_iff.mpr (fun h => absurd (k1 h) (by rw [hf]; decide))
        subst n13
        subst hf
        refine Go.Proofs.YtbmklpcheopgoaaReg.op_val ho2 rfl (v := .int .i64 ((rd_T33 pts i).f1)) (w1 := W') ?_ (hK _ _ ⟨b0, b1, b2, b3, b4, true, true, b7, b8, b9, b10, b11, b12, false, rfl, rfl, (k0), (fun _ => rfl), hHB, hHW⟩)
        simp [go_sem, hu, (Blks.cell hHB 1 rfl 1)]
       ·
        simp only [List.getElem?_toArray, List.getElem?_cons_succ, List.getElem?_cons_zero, Option.some.injEq] at ho
        subst ho
        replace hf : b7 = false := hf
        subst hf
        refine Go.Proofs.YtbmklpcheopgoaaReg.op_val ho2 rfl (v := .pointer (some ⟨wr.heap.size, 1, none⟩)) (w1 := W') ?_ (hK _ _ ⟨b0, b1, b2, b3, b4, b5, b6, true, b8, b9, b10, b11, b12, b13, rfl, rfl, (k0), (k1), hHB, hHW⟩)
        simp [go_sem, hu]
       ·
        simp only [List.getElem?_toArray, List.getElem?_cons_succ, List.getElem?_cons_zero, Option.some.injEq] at ho
        subst ho
        replace hf : b8 = false := hf
        have d7 : b7 = true := hd ⟨7, .data⟩ (by simp) rfl
        subst d7
        subst hf
        refine Go.Proofs.YtbmklpcheopgoaaReg.op_val ho2 rfl (v := .int .i64 ((rd_T33 pts i).f1)) (w1 := W') ?_ (hK _ _ ⟨b0, b1, b2, b3, b4, b5, b6, true, true, b9, b10, b11, b12, b13, rfl, rfl, (k0), (k1), hHB, hHW⟩)
        simp [go_sem, hu, (Blks.cell hHB 0 rfl 1)]
       ·
        simp only [List.getElem?_toArray, List.getElem?_cons_succ, List.getElem?_cons_zero, Option.some.injEq] at ho
        subst ho
        replace hf : b9 = false := hf
        have d6 : b6 = true := hd ⟨6, .data⟩ (by simp) rfl
        have d8 : b8 = true := hd ⟨8, .data⟩ (by simp) rfl
        subst d6
        subst d8
        subst hf
        refine Go.Proofs.YtbmklpcheopgoaaReg.op_val ho2 rfl (v := .int .i64 (max ((rd_T33 pts i).f1) ((rd_T33 pts i).f1))) (w1 := W') ?_ (hK _ _ ⟨b0, b1, b2, b3, b4, b5, true, b7, true, true, b10, b11, b12, b13, rfl, rfl, (k0), (fun _ => rfl), hHB, hHW⟩)
        simp [go_sem, hu] <;> omega
       ·
        simp only [List.getElem?_toArray, List.getElem?_cons_succ, List.getElem?_cons_zero, Option.some.injEq] at ho
        subst ho
        replace hf : b10 = false := hf
        have d0 : b0 = true := hd ⟨0, .phase⟩ (by simp) rfl
        have d1 : b1 = true := hd ⟨1, .phase⟩ (by simp) rfl
        have d2 : b2 = true := hd ⟨2, .phase⟩ (by simp) rfl
        have d3 : b3 = true := hd ⟨3, .phase⟩ (by simp) rfl
        have d4 : b4 = true := hd ⟨4, .phase⟩ (by simp) rfl
        have d5 : b5 = true := hd ⟨5, .phase⟩ (by simp) rfl
        have d6 : b6 = true := hd ⟨6, .phase⟩ (by simp) rfl
        subst d0
        subst d1
        subst d2
        subst d3
        subst d4
        subst d5
        subst d6
        subst hf
        refine Go.Proofs.YtbmklpcheopgoaaReg.op_val ho2 rfl (v := .pointer (some ⟨(w.heap.size + 1 + 1), 0, none⟩)) (w1 := W') ?_ (hK _ _ ⟨true, true, true, true, true, true, true, b7, b8, b9, true, b11, b12, b13, rfl, rfl, (fun _ => rfl), (fun _ => rfl), hHB, hHW⟩)
        simp [go_sem, hu]
       ·
        simp only [List.getElem?_toArray, List.getElem?_cons_succ, List.getElem?_cons_zero, Option.some.injEq] at ho
        subst ho
        replace hf : b11 = false := hf
        have d0 : b0 = true := hd ⟨0, .phase⟩ (by simp) rfl
        have d1 : b1 = true := hd ⟨1, .phase⟩ (by simp) rfl
        have d2 : b2 = true := hd ⟨2, .phase⟩ (by simp) rfl
        have d3 : b3 = true := hd ⟨3, .phase⟩ (by simp) rfl
        have d4 : b4 = true := hd ⟨4, .data⟩ (by simp) rfl
        have d5 : b5 = true := hd ⟨5, .phase⟩ (by simp) rfl
        have d6 : b6 = true := hd ⟨6, .phase⟩ (by simp) rfl
        have d10 : b10 = true := hd ⟨10, .data⟩ (by simp) rfl
        subst d0
        subst d1
        subst d2
        subst d3
        subst d4
        subst d5
        subst d6
        subst d10
        subst hf
        refine Go.Proofs.YtbmklpcheopgoaaReg.op_skip ho2 rfl (w1 := W'.setCell ⟨(w.heap.size + 1 + 1), 0, none⟩ (.int .i64 (max ((rd_T33 pts i).f0) ((rd_T33 pts i).f0)))) ?_ (hK _ _ ⟨true, true, true, true, true, true, true, b7, b8, b9, true, true, b12, b13, rfl, rfl, (fun _ => rfl), (fun _ => rfl), Blks.set hHB 1 rfl 0 (.int .i64 (max ((rd_T33 pts i).f0) ((rd_T33 pts i).f0))), (Below.setCell hHW (by dsimp only; omega) (.int .i64 (max ((rd_T33 pts i).f0) ((rd_T33 pts i).f0))))⟩)
        simp [go_sem, hu, (Blks.cell hHB 1 rfl 0), (Blks.free hHB 1 rfl 0)]
       ·
        simp only [List.getElem?_toArray, List.getElem?_cons_succ, List.getElem?_cons_zero, Option.some.injEq] at ho
        subst ho
        replace hf : b12 = false := hf
        have d0 : b0 = true := hd ⟨0, .phase⟩ (by simp) rfl
        have d1 : b1 = true := hd ⟨1, .phase⟩ (by simp) rfl
        have d2 : b2 = true := hd ⟨2, .phase⟩ (by simp) rfl
        have d3 : b3 = true := hd ⟨3, .phase⟩ (by simp) rfl
        have d4 : b4 = true := hd ⟨4, .phase⟩ (by simp) rfl
        have d5 : b5 = true := hd ⟨5, .phase⟩ (by simp) rfl
        have d6 : b6 = true := hd ⟨6, .phase⟩ (by simp) rfl
        have d7 : b7 = true := hd ⟨7, .phase⟩ (by simp) rfl
        have d8 : b8 = true := hd ⟨8, .phase⟩ (by simp) rfl
        have d9 : b9 = true := hd ⟨9, .phase⟩ (by simp) rfl
        have d10 : b10 = true := hd ⟨10, .phase⟩ (by simp) rfl
        have d11 : b11 = true := hd ⟨11, .phase⟩ (by simp) rfl
        subst d0
        subst d1
        subst d2
        subst d3
        subst d4
        subst d5
        subst d6
        subst d7
        subst d8
        subst d9
        subst d10
        subst d11
        subst hf
        refine Go.Proofs.YtbmklpcheopgoaaReg.op_val ho2 rfl (v := .pointer (some ⟨(w.heap.size + 1 + 1), 1, none⟩)) (w1 := W') ?_ (hK _ _ ⟨true, true, true, true, true, true, true, true, true, true, true, true, true, b13, rfl, rfl, (fun _ => rfl), (fun _ => rfl), hHB, hHW⟩)
        simp [go_sem, hu]
       ·
        simp only [List.getElem?_toArray, List.getElem?_cons_succ, List.getElem?_cons_zero, Option.some.injEq] at ho
        subst ho
        replace hf : b13 = false := hf
        have d0 : b0 = true := hd ⟨0, .phase⟩ (by simp) rfl
        have d1 : b1 = true := hd ⟨1, .phase⟩ (by simp) rfl
        have d2 : b2 = true := hd ⟨2, .phase⟩ (by simp) rfl
        have d3 : b3 = true := hd ⟨3, .phase⟩ (by simp) rfl
        have d4 : b4 = true := hd ⟨4, .phase⟩ (by simp) rfl
        have d5 : b5 = true := hd ⟨5, .phase⟩ (by simp) rfl
        have d6 : b6 = true := hd ⟨6, .phase⟩ (by simp) rfl
        have d7 : b7 = true := hd ⟨7, .phase⟩ (by simp) rfl
        have d8 : b8 = true := hd ⟨8, .phase⟩ (by simp) rfl
        have d9 : b9 = true := hd ⟨9, .data⟩ (by simp) rfl
        have d10 : b10 = true := hd ⟨10, .phase⟩ (by simp) rfl
        have d11 : b11 = true := hd ⟨11, .chain⟩ (by simp) rfl
        have d12 : b12 = true := hd ⟨12, .data⟩ (by simp) rfl
        subst d0
        subst d1
        subst d2
        subst d3
        subst d4
        subst d5
        subst d6
        subst d7
        subst d8
        subst d9
        subst d10
        subst d11
        subst d12
        subst hf
        refine Go.Proofs.YtbmklpcheopgoaaReg.op_skip ho2 rfl (w1 := W'.setCell ⟨(w.heap.size + 1 + 1), 1, none⟩ (.int .i64 (max ((rd_T33 pts i).f1) ((rd_T33 pts i).f1)))) ?_ (hK _ _ ⟨true, true, true, true, true, true, true, true, true, true, true, true, true, true, rfl, rfl, (fun _ => rfl), (fun _ => rfl), Blks.set hHB 1 rfl 1 (.int .i64 (max ((rd_T33 pts i).f1) ((rd_T33 pts i).f1))), (Below.setCell hHW (by dsimp only; omega) (.int .i64 (max ((rd_T33 pts i).f1) ((rd_T33 pts i).f1))))⟩)
        simp [go_sem, hu, (Blks.cell hHB 1 rfl 1), (Blks.free hHB 1 rfl 1)]
      ·
       rintro lst a W' ⟨b0, b1, b2, b3, b4, b5, b6, b7, b8, b9, b10, b11, b12, b13, rfl, rfl, k0, k1, hHB, hHW⟩ hall
       have a0 : b0 = true := hall 0 (by decide)
       have a1 : b1 = true := hall 1 (by decide)
       have a2 : b2 = true := hall 2 (by decide)
       have a3 : b3 = true := hall 3 (by decide)
       have a4 : b4 = true := hall 4 (by decide)
       have a5 : b5 = true := hall 5 (by decide)
       have a6 : b6 = true := hall 6 (by decide)
       have a7 : b7 = true := hall 7 (by decide)
       have a8 : b8 = true := hall 8 (by decide)
       have a9 : b9 = true := hall 9 (by decide)
       have a10 : b10 = true := hall 10 (by decide)
       have a11 : b11 = true := hall 11 (by decide)
       have a12 : b12 = true := hall 12 (by decide)
       have a13 : b13 = true := hall 13 (by decide)
       subst a0 a1 a2 a3 a4 a5 a6 a7 a8 a9 a10 a11 a12 a13
       clear k0 k1
       clear hall
       have HB : Blks [(wr.heap.size, .cells #[.int .i64 ((rd_T33 pts i).f0), .int .i64 ((rd_T33 pts i).f1), .bool (rd_T33 pts i).f2] 33 (0, 0)), ((w.heap.size + 1 + 1), .cells #[.int .i64 (max ((rd_T33 pts i).f0) ((rd_T33 pts i).f0)), .int .i64 (max ((rd_T33 pts i).f1) ((rd_T33 pts i).f1)), .bool false] 33 (0, 0)), ((w.heap.size + 1), .cells #[.int .i64 (min ((rd_T33 pts i).f0) ((rd_T33 pts i).f0)), .int .i64 (min ((rd_T33 pts i).f1) ((rd_T33 pts i).f1)), .bool false] 33 (0, 0)), (w.heap.size, .cells #[.slice (some ad0) pts.length c0, v1] 25 (0, 0))] W' := hHB
       have HW : Below w.heap.size w W' := hHW
       clear hHB hHW
       go_wp2
       go_roundw
       case rel =>
        refine ⟨i + 1, by omega, by simp, ⟨?_, HW⟩⟩
        have hst : boxSt pts (i + 1) = (⟨min ((rd_T33 pts i).f0) ((rd_T33 pts i).f0), min ((rd_T33 pts i).f1) ((rd_T33 pts i).f1), false⟩, ⟨max ((rd_T33 pts i).f0) ((rd_T33 pts i).f0), max ((rd_T33 pts i).f1) ((rd_T33 pts i).f1), false⟩) := by rw [boxSt_succ]; rw [HZ.out]; simp [boxStep]
        rw [hst]
        exact HB.tail
       case measure => simp [intOf]; omega
   ·
    have hz' : ((i : Int) == 0) = false := by simpa using hz
    have HZ := Lib.hid hz
    clear hz
    go_wp2
    replace HB := (HB.alloc (.cells #[.int .i64 (rd_T33 pts i).f0, .int .i64 (rd_T33 pts i).f1, .bool (rd_T33 pts i).f2] 33))
    replace HW := (HW.alloc HW.size (.cells #[.int .i64 (rd_T33 pts i).f0, .int .i64 (rd_T33 pts i).f1, .bool (rd_T33 pts i).f2] 33))
    refine Go.Proofs.YtbmklpcheopgoaaReg.reg_inv (by rfl) [0, 1, 2, 3, 4, 5, 6, 7, 8, 9, 10, 11, 12, 13] (by kernel_rfl) (by kernel_rfl)
     (fun lst a W' => ∃ (b0 b1 b2 b3 b4 b5 b6 b7 b8 b9 b10 b11 b12 b13 : Bool), lst = #[b0, b1, b2, b3, b4, b5, b6, b7, b8, b9, b10, b11, b12, b13] ∧ a = ⟨#[.agg #[.slice (some ad0) pts.length c0, v1], .pointer (some ⟨w.heap.size, 0, none⟩), .pointer (some ⟨(w.heap.size + 1), 0, none⟩), .pointer (some ⟨(w.heap.size + 1 + 1), 0, none⟩), .bool false, .int .i64 i, .pointer (some ⟨wr.heap.size, 0, none⟩), .pointer (some ⟨w.heap.size, 0, none⟩), .slice (some ad0) pts.length c0, .int .i64 pts.length, .int .i64 i, .bool true, .int .i64 i, .pointer (some (ad0.add (i * 3))), .agg #[.int .i64 (rd_T33 pts i).f0, .int .i64 (rd_T33 pts i).f1, .bool (rd_T33 pts i).f2], .int .i64 i, .bool false, u17, u18, u19, u20, u21, u22, u23, u24, u25, u26, (cond b0 (.pointer (some ⟨(w.heap.size + 1), 0, none⟩)) u27), (cond b1 (.int .i64 ((boxSt pts i).1.f0)) u28), (cond b2 (.pointer (some ⟨wr.heap.size, 0, none⟩)) u29), (cond b3 (.int .i64 ((rd_T33 pts i).f0)) u30), (cond b4 (.int .i64 (min ((boxSt pts i).1.f0) ((rd_T33 pts i).f0))) u31), (cond b5 (.pointer (some ⟨(w.heap.size + 1), 1, none⟩)) u32), (cond b6 (.int .i64 ((boxSt pts i).1.f1)) u33), (cond b7 (.pointer (some ⟨wr.heap.size, 1, none⟩)) u34), (cond b8 (.int .i64 ((rd_T33 pts i).f1)) u35), (cond b9 (.int .i64 (min ((boxSt pts i).1.f1) ((rd_T33 pts i).f1))) u36), (cond b10 (.pointer (some ⟨(w.heap.size + 1), 0, none⟩)) u37), (cond b12 (.pointer (some ⟨(w.heap.size + 1), 1, none⟩)) u38), u39, u40, u41, u42, u43, u44, u45, u46, u47, u48, u49, u50, u51, undef, undef, undef, undef, undef, undef], []⟩ ∧ (b11 = true → b1 = true) ∧ (b13 = true → b6 = true) ∧ (Blks [(wr.heap.size, .cells #[.int .i64 ((rd_T33 pts i).f0), .int .i64 ((rd_T33 pts i).f1), .bool (rd_T33 pts i).f2] 33 (0, 0)), ((w.heap.size + 1 + 1), .cells #[.int .i64 ((boxSt pts i).2.f0), .int .i64 ((boxSt pts i).2.f1), .bool ((boxSt pts i).2.f2)] 33 (0, 0)), ((w.heap.size + 1), .cells #[cond b11 (.int .i64 (min ((boxSt pts i).1.f0) ((rd_T33 pts i).f0))) (.int .i64 ((boxSt pts i).1.f0)), cond b13 (.int .i64 (min ((boxSt pts i).1.f1) ((rd_T33 pts i).f1))) (.int .i64 ((boxSt pts i).1.f1)), .bool ((boxSt pts i).1.f2)] 33 (0, 0)), (w.heap.size, .cells #[.slice (some ad0) pts.length c0, v1] 25 (0, 0))] W') ∧ (Below w.heap.size w W')) ?_ ?_ ?_ ?_
    ·
     rintro lst a W' ⟨b0, b1, b2, b3, b4, b5, b6, b7, b8, b9, b10, b11, b12, b13, rfl, _⟩
     rfl
    ·
     exact ⟨false, false, false, false, false, false, false, false, false, false, false, false, false, false, rfl, rfl, (fun h => Bool.noConfusion h), (fun h => Bool.noConfusion h), HB.drew, below_drew HW⟩
    ·
     rintro lst a W' i o ⟨b0, b1, b2, b3, b4, b5, b6, b7, b8, b9, b10, b11, b12, b13, rfl, rfl, k0, k1, hHB, hHW⟩ ho hf hd K hK
     have hi : i < 14 := (Array.getElem?_eq_some_iff.1 ho).1
     have ho2 := ho
     rcases (show i = 0 ∨ i = 1 ∨ i = 2 ∨ i = 3 ∨ i = 4 ∨ i = 5 ∨ i = 6 ∨ i = 7 ∨ i = 8 ∨ i = 9 ∨ i = 10 ∨ i = 11 ∨ i = 12 ∨ i = 13 by omega) with rfl | rfl | rfl | rfl | rfl | rfl | rfl | rfl | rfl | rfl | rfl | rfl | rfl | rfl
     ·
      simp only [List.getElem?_toArray, List.getElem?_cons_succ, List.getElem?_cons_zero, Option.some.injEq] at ho
      subst ho
      replace hf : b0 = false := hf
      subst hf
      refine Go.Proofs.YtbmklpcheopgoaaReg.op_val ho2 rfl (v := .pointer (some ⟨(w.heap.size + 1), 0, none⟩)) (w1 := W') ?_ (hK _ _ ⟨true, b1, b2, b3, b4, b5, b6, b7, b8, b9, b10, b11, b12, b13, rfl, rfl, (k0), (k1), hHB, hHW⟩)
      simp [go_sem, hu]
     ·
      simp only [List.getElem?_toArray, List.getElem?_cons_succ, List.getElem?_cons_zero, Option.some.injEq] at ho
      subst ho
      replace hf : b1 = false := hf
      have d0 : b0 = true := hd ⟨0, .data⟩ (by simp) rfl
      subst d0
      have n11 : b11 = false := Bool.eq_false_iff.mpr (fun h => absurd (k0 h) (by rw [hf]; decide))
      subst n11
      subst hf
      refine Go.Proofs.YtbmklpcheopgoaaReg.op_val ho2 rfl (v := .int .i64 ((boxSt pts i).1.f0)) (w1 := W') ?_ (hK _ _ ⟨true, true, b2, b3, b4, b5, b6, b7, b8, b9, b10, false, b12, b13, rfl, rfl, (fun _ => rfl), (k1), hHB, hHW⟩)
      simp [go_sem, hu, (Blks.cell hHB 2 rfl 0)]
     ·
      simp only [List.getElem?_toArray, List.getElem?_cons_succ, List.getElem?_cons_zero, Option.some.injEq] at ho
      subst ho
      replace hf : b2 = false := hf
      subst hf
      refine Go.Proofs.YtbmklpcheopgoaaReg.op_val ho2 rfl (v := .pointer (some ⟨wr.heap.size, 0, none⟩)) (w1 := W') ?_ (hK _ _ ⟨b0, b1, true, b3, b4, b5, b6, b7, b8, b9, b10, b11, b12, b13, rfl, rfl, (k0), (k1), hHB, hHW⟩)
      simp [go_sem, hu]
     ·
      simp only [List.getElem?_toArray, List.getElem?_cons_succ, List.getElem?_cons_zero, Option.some.injEq] at ho
      subst ho
      replace hf : b3 = false := hf
      have d2 : b2 = true := hd ⟨2, .data⟩ (by simp) rfl
      subst d2
      subst hf
      refine Go.Proofs.YtbmklpcheopgoaaReg.op_val ho2 rfl (v := .int .i64 ((rd_T33 pts i).f0)) (w1 := W') ?_ (hK _ _ ⟨b0, b1, true, true, b4, b5, b6, b7, b8, b9, b10, b11, b12, b13, rfl, rfl, (k0), (k1), hHB, hHW⟩)
      simp [go_sem, hu, (Blks.cell hHB 0 rfl 0)]
     ·
      simp only [List.getElem?_toArray, List.getElem?_cons_succ, List.getElem?_cons_zero, Option.some.injEq] at ho
      subst ho
      replace hf : b4 = false := hf
      have d1 : b1 = true := hd ⟨1, .data⟩ (by simp) rfl
      have d3 : b3 = true := hd ⟨3, .data⟩ (by simp) rfl
      subst d1
      subst d3
      subst hf
      refine Go.Proofs.YtbmklpcheopgoaaReg.op_val ho2 rfl (v := .int .i64 (min ((boxSt pts i).1.f0) ((rd_T33 pts i).f0))) (w1 := W') ?_ (hK _ _ ⟨b0, true, b2, true, true, b5, b6, b7, b8, b9, b10, b11, b12, b13, rfl, rfl, (fun _ => rfl), (k1), hHB, hHW⟩)
      simp [go_sem, hu] <;> omega
     ·
      simp only [List.getElem?_toArray, List.getElem?_cons_succ, List.getElem?_cons_zero, Option.some.injEq] at ho
      subst ho
      replace hf : b5 = false := hf
      subst hf
      refine Go.Proofs.YtbmklpcheopgoaaReg.op_val ho2 rfl (v := .pointer (some ⟨(w.heap.size + 1), 1, none⟩)) (w1 := W') ?_ (hK _ _ ⟨b0, b1, b2, b3, b4, true, b6, b7, b8, b9, b10, b11, b12, b13, rfl, rfl, (k0), (k1), hHB, hHW⟩)
      simp [go_sem, hu]
     ·
      simp only [List.getElem?_toArray, List.getElem?_cons_succ, List.getElem?_cons_zero, Option.some.injEq] at ho
      subst ho
      replace hf : b6 = false := hf
      have d5 : b5 = true := hd ⟨5, .data⟩ (by simp) rfl
      subst d5
      have n13 : b13 = false := Bool.eq_false_iff.mpr (fun h => absurd (k1 h) (by rw [hf]; decide))
      subst n13
      subst hf
      refine Go.Proofs.YtbmklpcheopgoaaReg.op_val ho2 rfl (v := .int .i64 ((boxSt pts i).1.f1)) (w1 := W') ?_ (hK _ _ ⟨b0, b1, b2, b3, b4, true, true, b7, b8, b9, b10, b11, b12, false, rfl, rfl, (k0), (fun _ => rfl), hHB, hHW⟩)
      simp [go_sem, hu, (Blks.cell hHB 2 rfl 1)]
     ·
      simp only [List.getElem?_toArray, List.getElem?_cons_succ, List.getElem?_cons_zero, Option.some.injEq] at ho
      subst ho
      replace hf : b7 = false := hf
      subst hf
      refine Go.Proofs.YtbmklpcheopgoaaReg.op_val ho2 rfl (v := .pointer (some ⟨wr.heap.size, 1, none⟩)) (w1 := W') ?_ (hK _ _ ⟨b0, b1, b2, b3, b4, b5, b6, true, b8, b9, b10, b11, b12, b13, rfl, rfl, (k0), (k1), hHB, hHW⟩)
      simp [go_sem, hu]
     ·
      simp only [List.getElem?_toArray, List.getElem?_cons_succ, List.getElem?_cons_zero, Option.some.injEq] at ho
      subst ho
      replace hf : b8 = false := hf
      have d7 : b7 = true := hd ⟨7, .data⟩ (by simp) rfl
      subst d7
      subst hf
      refine Go.Proofs.YtbmklpcheopgoaaReg.op_val ho2 rfl (v := .int .i64 ((rd_T33 pts i).f1)) (w1 := W') ?_ (hK _ _ ⟨b0, b1, b2, b3, b4, b5, b6, true, true, b9, b10, b11, b12, b13, rfl, rfl, (k0), (k1), hHB, hHW⟩)
      simp [go_sem, hu, (Blks.cell hHB 0 rfl 1)]
     ·
      simp only [List.getElem?_toArray, List.getElem?_cons_succ, List.getElem?_cons_zero, Option.some.injEq] at ho
      subst ho
      replace hf : b9 = false := hf
      have d6 : b6 = true := hd ⟨6, .data⟩ (by simp) rfl
      have d8 : b8 = true := hd ⟨8, .data⟩ (by simp) rfl
      subst d6
      subst d8
      subst hf
      refine Go.Proofs.YtbmklpcheopgoaaReg.op_val ho2 rfl (v := .int .i64 (min ((boxSt pts i).1.f1) ((rd_T33 pts i).f1))) (w1 := W') ?_ (hK _ _ ⟨b0, b1, b2, b3, b4, b5, true, b7, true, true, b10, b11, b12, b13, rfl, rfl, (k0), (fun _ => rfl), hHB, hHW⟩)
      simp [go_sem, hu] <;> omega
     ·
      simp only [List.getElem?_toArray, List.getElem?_cons_succ, List.getElem?_cons_zero, Option.some.injEq] at ho
      subst ho
      replace hf : b10 = false := hf
      have d0 : b0 = true := hd ⟨0, .phase⟩ (by simp) rfl
      have d1 : b1 = true := hd ⟨1, .phase⟩ (by simp) rfl
      have d2 : b2 = true := hd ⟨2, .phase⟩ (by simp) rfl
      have d3 : b3 = true := hd ⟨3, .phase⟩ (by simp) rfl
      have d4 : b4 = true := hd ⟨4, .phase⟩ (by simp) rfl
      have d5 : b5 = true := hd ⟨5, .phase⟩ (by simp) rfl
      have d6 : b6 = true := hd ⟨6, .phase⟩ (by simp) rfl
      subst d0
      subst d1
      subst d2
      subst d3
      subst d4
      subst d5
      subst d6
      subst hf
      refine Go.Proofs.YtbmklpcheopgoaaReg.op_val ho2 rfl (v := .pointer (some ⟨(w.heap.size + 1), 0, none⟩)) (w1 := W') ?_ (hK _ _ ⟨true, true, true, true, true, true, true, b7, b8, b9, true, b11, b12, b13, rfl, rfl, (fun _ => rfl), (fun _ => rfl), hHB, hHW⟩)
      simp [go_sem, hu]
     ·
      simp only [List.getElem?_toArray, List.getElem?_cons_succ, List.getElem?_cons_zero, Option.some.injEq] at ho
      subst ho
      replace hf : b11 = false := hf
      have d0 : b0 = true := hd ⟨0, .phase⟩ (by simp) rfl
      have d1 : b1 = true := hd ⟨1, .phase⟩ (by simp) rfl
      have d2 : b2 = true := hd ⟨2, .phase⟩ (by simp) rfl
      have d3 : b3 = true := hd ⟨3, .phase⟩ (by simp) rfl
      have d4 : b4 = true := hd ⟨4, .data⟩ (by simp) rfl
      have d5 : b5 = true := hd ⟨5, .phase⟩ (by simp) rfl
      have d6 : b6 = true := hd ⟨6, .phase⟩ (by simp) rfl
      have d10 : b10 = true := hd ⟨10, .data⟩ (by simp) rfl
      subst d0
      subst d1
      subst d2
      subst d3
      subst d4
      subst d5
      subst d6
      subst d10
      subst hf
      refine Go.Proofs.YtbmklpcheopgoaaReg.op_skip ho2 rfl (w1 := W'.setCell ⟨(w.heap.size + 1), 0, none⟩ (.int .i64 (min ((boxSt pts i).1.f0) ((rd_T33 pts i).f0)))) ?_ (hK _ _ ⟨true, true, true, true, true, true, true, b7, b8, b9, true, true, b12, b13, rfl, rfl, (fun _ => rfl), (fun _ => rfl), Blks.set hHB 2 rfl 0 (.int .i64 (min ((boxSt pts i).1.f0) ((rd_T33 pts i).f0))), (Below.setCell hHW (by dsimp only; omega) (.int .i64 (min ((boxSt pts i).1.f0) ((rd_T33 pts i).f0))))⟩)
      simp [go_sem, hu, (Blks.cell hHB 2 rfl 0), (Blks.free hHB 2 rfl 0)]
     ·
      simp only [List.getElem?_toArray, List.getElem?_cons_succ, List.getElem?_cons_zero, Option.some.injEq] at ho
      subst ho
      replace hf : b12 = false := hf
      have d0 : b0 = true := hd ⟨0, .phase⟩ (by simp) rfl
      have d1 : b1 = true := hd ⟨1, .phase⟩ (by simp) rfl
      have d2 : b2 = true := hd ⟨2, .phase⟩ (by simp) rfl
      have d3 : b3 = true := hd ⟨3, .phase⟩ (by simp) rfl
      have d4 : b4 = true := hd ⟨4, .phase⟩ (by simp) rfl
      have d5 : b5 = true := hd ⟨5, .phase⟩ (by simp) rfl
      have d6 : b6 = true := hd ⟨6, .phase⟩ (by simp) rfl
      have d7 : b7 = true := hd ⟨7, .phase⟩ (by simp) rfl
      have d8 : b8 = true := hd ⟨8, .phase⟩ (by simp) rfl
      have d9 : b9 = true := hd ⟨9, .phase⟩ (by simp) rfl
      have d10 : b10 = true := hd ⟨10, .phase⟩ (by simp) rfl
      have d11 : b11 = true := hd ⟨11, .phase⟩ (by simp) rfl
      subst d0
      subst d1
      subst d2
      subst d3
      subst d4
      subst d5
      subst d6
      subst d7
      subst d8
      subst d9
      subst d10
      subst d11
      subst hf
      refine Go.Proofs.YtbmklpcheopgoaaReg.op_val ho2 rfl (v := .pointer (some ⟨(w.heap.size + 1), 1, none⟩)) (w1 := W') ?_ (hK _ _ ⟨true, true, true, true, true, true, true, true, true, true, true, true, true, b13, rfl, rfl, (fun _ => rfl), (fun _ => rfl), hHB, hHW⟩)
      simp [go_sem, hu]
     ·
      simp only [List.getElem?_toArray, List.getElem?_cons_succ, List.getElem?_cons_zero, Option.some.injEq] at ho
      subst ho
      replace hf : b13 = false := hf
      have d0 : b0 = true := hd ⟨0, .phase⟩ (by simp) rfl
      have d1 : b1 = true := hd ⟨1, .phase⟩ (by simp) rfl
      have d2 : b2 = true := hd ⟨2, .phase⟩ (by simp) rfl
      have d3 : b3 = true := hd ⟨3, .phase⟩ (by simp) rfl
      have d4 : b4 = true := hd ⟨4, .phase⟩ (by simp) rfl
      have d5 : b5 = true := hd ⟨5, .phase⟩ (by simp) rfl
      have d6 : b6 = true := hd ⟨6, .phase⟩ (by simp) rfl
      have d7 : b7 = true := hd ⟨7, .phase⟩ (by simp) rfl
      have d8 : b8 = true := hd ⟨8, .phase⟩ (by simp) rfl
      have d9 : b9 = true := hd ⟨9, .data⟩ (by simp) rfl
      have d10 : b10 = true := hd ⟨10, .phase⟩ (by simp) rfl
      have d11 : b11 = true := hd ⟨11, .chain⟩ (by simp) rfl
      have d12 : b12 = true := hd ⟨12, .data⟩ (by simp) rfl
      subst d0
      subst d1
      subst d2
      subst d3
      subst d4
      subst d5
      subst d6
      subst d7
      subst d8
      subst d9
      subst d10
      subst d11
      subst d12
      subst hf
      refine Go.Proofs.YtbmklpcheopgoaaReg.op_skip ho2 rfl (w1 := W'.setCell ⟨(w.heap.size + 1), 1, none⟩ (.int .i64 (min ((boxSt pts i).1.f1) ((rd_T33 pts i).f1)))) ?_ (hK _ _ ⟨true, true, true, true, true, true, true, true, true, true, true, true, true, true, rfl, rfl, (fun _ => rfl), (fun _ => rfl), Blks.set hHB 2 rfl 1 (.int .i64 (min ((boxSt pts i).1.f1) ((rd_T33 pts i).f1))), (Below.setCell hHW (by dsimp only; omega) (.int .i64 (min ((boxSt pts i).1.f1) ((rd_T33 pts i).f1))))⟩)
      simp [go_sem, hu, (Blks.cell hHB 2 rfl 1), (Blks.free hHB 2 rfl 1)]
    ·
     rintro lst a W' ⟨b0, b1, b2, b3, b4, b5, b6, b7, b8, b9, b10, b11, b12, b13, rfl, rfl, k0, k1, hHB, hHW⟩ hall
     have a0 : b0 = true := hall 0 (by decide)
     have a1 : b1 = true := hall 1 (by decide)
     have a2 : b2 = true := hall 2 (by decide)
     have a3 : b3 = true := hall 3 (by decide)
     have a4 : b4 = true := hall 4 (by decide)
     have a5 : b5 = true := hall 5 (by decide)
     have a6 : b6 = true := hall 6 (by decide)
     have a7 : b7 = true := hall 7 (by decide)
     have a8 : b8 = true := hall 8 (by decide)
     have a9 : b9 = true := hall 9 (by decide)
     have a10 : b10 = true := hall 10 (by decide)
     have a11 : b11 = true := hall 11 (by decide)
     have a12 : b12 = true := hall 12 (by decide)
     have a13 : b13 = true := hall 13 (by decide)
     subst a0 a1 a2 a3 a4 a5 a6 a7 a8 a9 a10 a11 a12 a13
     clear k0 k1
     clear hall
     have HB : Blks [(wr.heap.size, .cells #[.int .i64 ((rd_T33 pts i).f0), .int .i64 ((rd_T33 pts i).f1), .bool (rd_T33 pts i).f2] 33 (0, 0)), ((w.heap.size + 1 + 1), .cells #[.int .i64 ((boxSt pts i).2.f0), .int .i64 ((boxSt pts i).2.f1), .bool ((boxSt pts i).2.f2)] 33 (0, 0)), ((w.heap.size + 1), .cells #[.int .i64 (min ((boxSt pts i).1.f0) ((rd_T33 pts i).f0)), .int .i64 (min ((boxSt pts i).1.f1) ((rd_T33 pts i).f1)), .bool ((boxSt pts i).1.f2)] 33 (0, 0)), (w.heap.size, .cells #[.slice (some ad0) pts.length c0, v1] 25 (0, 0))] W' := hHB
     have HW : Below w.heap.size w W' := hHW
     clear hHB hHW
     go_wp2
     refine Go.Proofs.YtbmklpcheopgoaaReg.reg_inv (by rfl) [0, 1, 2, 3, 4, 5, 6, 7, 8, 9, 10, 11, 12, 13] (by kernel_rfl) (by kernel_rfl)
      (fun lst a W' => ∃ (b0 b1 b2 b3 b4 b5 b6 b7 b8 b9 b10 b11 b12 b13 : Bool), lst = #[b0, b1, b2, b3, b4, b5, b6, b7, b8, b9, b10, b11, b12, b13] ∧ a = ⟨#[.agg #[.slice (some ad0) pts.length c0, v1], .pointer (some ⟨w.heap.size, 0, none⟩), .pointer (some ⟨(w.heap.size + 1), 0, none⟩), .pointer (some ⟨(w.heap.size + 1 + 1), 0, none⟩), .bool false, .int .i64 i, .pointer (some ⟨wr.heap.size, 0, none⟩), .pointer (some ⟨w.heap.size, 0, none⟩), .slice (some ad0) pts.length c0, .int .i64 pts.length, .int .i64 i, .bool true, .int .i64 i, .pointer (some (ad0.add (i * 3))), .agg #[.int .i64 (rd_T33 pts i).f0, .int .i64 (rd_T33 pts i).f1, .bool (rd_T33 pts i).f2], .int .i64 i, .bool false, u17, u18, u19, u20, u21, u22, u23, u24, u25, u26, .pointer (some ⟨(w.heap.size + 1), 0, none⟩), .int .i64 ((boxSt pts i).1.f0), .pointer (some ⟨wr.heap.size, 0, none⟩), .int .i64 ((rd_T33 pts i).f0), .int .i64 (min ((boxSt pts i).1.f0) ((rd_T33 pts i).f0)), .pointer (some ⟨(w.heap.size + 1), 1, none⟩), .int .i64 ((boxSt pts i).1.f1), .pointer (some ⟨wr.heap.size, 1, none⟩), .int .i64 ((rd_T33 pts i).f1), .int .i64 (min ((boxSt pts i).1.f1) ((rd_T33 pts i).f1)), .pointer (some ⟨(w.heap.size + 1), 0, none⟩), .pointer (some ⟨(w.heap.size + 1), 1, none⟩), (cond b0 (.pointer (some ⟨(w.heap.size + 1 + 1), 0, none⟩)) u39), (cond b1 (.int .i64 ((boxSt pts i).2.f0)) u40), (cond b2 (.pointer (some ⟨wr.heap.size, 0, none⟩)) u41), (cond b3 (.int .i64 ((rd_T33 pts i).f0)) u42), (cond b4 (.int .i64 (max ((boxSt pts i).2.f0) ((rd_T33 pts i).f0))) u43), (cond b5 (.pointer (some ⟨(w.heap.size + 1 + 1), 1, none⟩)) u44), (cond b6 (.int .i64 ((boxSt pts i).2.f1)) u45), (cond b7 (.pointer (some ⟨wr.heap.size, 1, none⟩)) u46), (cond b8 (.int .i64 ((rd_T33 pts i).f1)) u47), (cond b9 (.int .i64 (max ((boxSt pts i).2.f1) ((rd_T33 pts i).f1))) u48), (cond b10 (.pointer (some ⟨(w.heap.size + 1 + 1), 0, none⟩)) u49), (cond b12 (.pointer (some ⟨(w.heap.size + 1 + 1), 1, none⟩)) u50), u51, undef, undef, undef, undef, undef, undef], []⟩ ∧ (b11 = true → b1 = true) ∧ (b13 = true → b6 = true) ∧ (Blks [(wr.heap.size, .cells #[.int .i64 ((rd_T33 pts i).f0), .int .i64 ((rd_T33 pts i).f1), .bool (rd_T33 pts i).f2] 33 (0, 0)), ((w.heap.size + 1 + 1), .cells #[cond b11 (.int .i64 (max ((boxSt pts i).2.f0) ((rd_T33 pts i).f0))) (.int .i64 ((boxSt pts i).2.f0)), cond b13 (.int .i64 (max ((boxSt pts i).2.f1) ((rd_T33 pts i).f1))) (.int .i64 ((boxSt pts i).2.f1)), .bool ((boxSt pts i).2.f2)] 33 (0, 0)), ((w.heap.size + 1), .cells #[.int .i64 (min ((boxSt pts i).1.f0) ((rd_T33 pts i).f0)), .int .i64 (min ((boxSt pts i).1.f1) ((rd_T33 pts i).f1)), .bool ((boxSt pts i).1.f2)] 33 (0, 0)), (w.heap.size, .cells #[.slice (some ad0) pts.length c0, v1] 25 (0, 0))] W') ∧ (Below w.heap.size w W')) ?_ ?_ ?_ ?_
     ·
      rintro lst a W' ⟨b0, b1, b2, b3, b4, b5, b6, b7, b8, b9, b10, b11, b12, b13, rfl, _⟩
      rfl
     ·
      exact ⟨false, false, false, false, false, false, false, false, false, false, false, false, false, false, rfl, rfl, (fun h => Bool.noConfusion h), (fun h => Bool.noConfusion h), HB.drew, below_drew HW⟩
     ·
      rintro lst a W' i o ⟨b0, b1, b2, b3, b4, b5, b6, b7, b8, b9, b10, b11, b12, b13, rfl, rfl, k0, k1, hHB, hHW⟩ ho hf hd K hK
      have hi : i < 14 := (Array.getElem?_eq_some_iff.1 ho).1
      have ho2 := ho
      rcases (show i = 0 ∨ i = 1 ∨ i = 2 ∨ i = 3 ∨ i = 4 ∨ i = 5 ∨ i = 6 ∨ i = 7 ∨ i = 8 ∨ i = 9 ∨ i = 10 ∨ i = 11 ∨ i = 12 ∨ i = 13 by omega) with rfl | rfl | rfl | rfl | rfl | rfl | rfl | rfl | rfl | rfl | rfl | rfl | rfl | rfl
      ·
       simp only [List.getElem?_toArray, List.getElem?_cons_succ, List.getElem?_cons_zero, Option.some.injEq] at ho
       subst ho
       replace hf : b0 = false := hf
       subst hf
       refine Go.Proofs.YtbmklpcheopgoaaReg.op_val ho2 rfl (v := .pointer (some ⟨(w.heap.size + 1 + 1), 0, none⟩)) (w1 := W') ?_ (hK _ _ ⟨true, b1, b2, b3, b4, b5, b6, b7, b8, b9, b10, b11, b12, b13, rfl, rfl, (k0), (k1), hHB, hHW⟩)
       simp [go_sem, hu]
      ·
       simp only [List.getElem?_toArray, List.getElem?_cons_succ, List.getElem?_cons_zero, Option.some.injEq] at ho
       subst ho
       replace hf : b1 = false := hf
       have d0 : b0 = true := hd ⟨0, .data⟩ (by simp) rfl
       subst d0
       have n11 : b11 = false := Bool.eq_false_iff.mpr (fun h => absurd (k0 h) (by rw [hf]; decide))
       subst n11
       subst hf
       refine Go.Proofs.YtbmklpcheopgoaaReg.op_val ho2 rfl (v := .int .i64 ((boxSt pts i).2.f0)) (w1 := W') ?_ (hK _ _ ⟨true, true, b2, b3, b4, b5, b6, b7, b8, b9, b10, false, b12, b13, rfl, rfl, (fun _ => rfl), (k1), hHB, hHW⟩)
       simp [go_sem, hu, (Blks.cell hHB 1 rfl 0)]
      ·
       simp only [List.getElem?_toArray, List.getElem?_cons_succ, List.getElem?_cons_zero, Option.some.injEq] at ho
       subst ho
       replace hf : b2 = false := hf
       subst hf
       refine Go.Proofs.YtbmklpcheopgoaaReg.op_val ho2 rfl (v := .pointer (some ⟨wr.heap.size, 0, none⟩)) (w1 := W') ?_ (hK _ _ ⟨b0, b1, true, b3, b4, b5, b6, b7, b8, b9, b10, b11, b12, b13, rfl, rfl, (k0), (k1), hHB, hHW⟩)
       simp [go_sem, hu]
      ·
       simp only [List.getElem?_toArray, List.getElem?_cons_succ, List.getElem?_cons_zero, Option.some.injEq] at ho
       subst ho
       replace hf : b3 = false := hf
       have d2 : b2 = true := hd ⟨2, .data⟩ (by simp) rfl
       subst d2
       subst hf
       refine Go.Proofs.YtbmklpcheopgoaaReg.op_val ho2 rfl (v := .int .i64 ((rd_T33 pts i).f0)) (w1 := W') ?_ (hK _ _ ⟨b0, b1, true, true, b4, b5, b6, b7, b8, b9, b10, b11, b12, b13, rfl, rfl, (k0), (k1), hHB, hHW⟩)
       simp [go_sem, hu, (Blks.cell hHB 0 rfl 0)]
      ·
       simp only [List.getElem?_toArray, List.getElem?_cons_succ, List.getElem?_cons_zero, Option.some.injEq] at ho
       subst ho
       replace hf : b4 = false := hf
       have d1 : b1 = true := hd ⟨1, .data⟩ (by simp) rfl
       have d3 : b3 = true := hd ⟨3, .data⟩ (by simp) rfl
       subst d1
       subst d3
       subst hf
       refine Go.Proofs.YtbmklpcheopgoaaReg.op_val ho2 rfl (v := .int .i64 (max ((boxSt pts i).2.f0) ((rd_T33 pts i).f0))) (w1 := W') ?_ (hK _ _ ⟨b0, true, b2, true, true, b5, b6, b7, b8, b9, b10, b11, b12, b13, rfl, rfl, (fun _ => rfl), (k1), hHB, hHW⟩)
       simp [go_sem, hu] <;> omega
      ·
       simp only [List.getElem?_toArray, List.getElem?_cons_succ, List.getElem?_cons_zero, Option.some.injEq] at ho
       subst ho
       replace hf : b5 = false := hf
       subst hf
       refine Go.Proofs.YtbmklpcheopgoaaReg.op_val ho2 rfl (v := .pointer (some ⟨(w.heap.size + 1 + 1), 1, none⟩)) (w1 := W') ?_ (hK _ _ ⟨b0, b1, b2, b3, b4, true, b6, b7, b8, b9, b10, b11, b12, b13, rfl, rfl, (k0), (k1), hHB, hHW⟩)
       simp [go_sem, hu]
      ·
       simp only [List.getElem?_toArray, List.getElem?_cons_succ, List.getElem?_cons_zero, Option.some.injEq] at ho
       subst ho
       replace hf : b6 = false := hf
       have d5 : b5 = true := hd ⟨5, .data⟩ (by simp) rfl
       subst d5
       have n13 : b13 = false := Bool.eq_false_iff.mpr (fun h => absurd (k1 h) (by rw [hf]; decide))
       subst n13
       subst hf
       refine Go.Proofs.YtbmklpcheopgoaaReg.op_val ho2 rfl (v := .int .i64 ((boxSt pts i).2.f1)) (w1 := W') ?_ (hK _ _ ⟨b0, b1, b2, b3, b4, true, true, b7, b8, b9, b10, b11, b12, false, rfl, rfl, (k0), (fun _ => rfl), hHB, hHW⟩)
       simp [go_sem, hu, (Blks.cell hHB 1 rfl 1)]
      ·
       simp only [List.getElem?_toArray, List.getElem?_cons_succ, List.getElem?_cons_zero, Option.some.injEq] at ho
       subst ho
       replace hf : b7 = false := hf
       subst hf
       refine Go.Proofs.YtbmklpcheopgoaaReg.op_val ho2 rfl (v := .pointer (some ⟨wr.heap.size, 1, none⟩)) (w1 := W') ?_ (hK _ _ ⟨b0, b1, b2, b3, b4, b5, b6, true, b8, b9, b10, b11, b12, b13, rfl, rfl, (k0), (k1), hHB, hHW⟩)
       simp [go_sem, hu]
      ·
       simp only [List.getElem?_toArray, List.getElem?_cons_succ, List.getElem?_cons_zero, Option.some.injEq] at ho
       subst ho
       replace hf : b8 = false := hf
       have d7 : b7 = true := hd ⟨7, .data⟩ (by simp) rfl
       subst d7
       subst hf
       refine Go.Proofs.YtbmklpcheopgoaaReg.op_val ho2 rfl (v := .int .i64 ((rd_T33 pts i).f1)) (w1 := W') ?_ (hK _ _ ⟨b0, b1, b2, b3, b4, b5, b6, true, true, b9, b10, b11, b12, b13, rfl, rfl, (k0), (k1), hHB, hHW⟩)
       simp [go_sem, hu, (Blks.cell hHB 0 rfl 1)]
      ·
       simp only [List.getElem?_toArray, List.getElem?_cons_succ, List.getElem?_cons_zero, Option.some.injEq] at ho
       subst ho
       replace hf : b9 = false := hf
       have d6 : b6 = true := hd ⟨6, .data⟩ (by simp) rfl
       have d8 : b8 = true := hd ⟨8, .data⟩ (by simp) rfl
       subst d6
       subst d8
       subst hf
       refine Go.Proofs.YtbmklpcheopgoaaReg.op_val ho2 rfl (v := .int .i64 (max ((boxSt pts i).2.f1) ((rd_T33 pts i).f1))) (w1 := W') ?_ (hK _ _ ⟨b0, b1, b2, b3, b4, b5, true, b7, true, true, b10, b11, b12, b13, rfl, rfl, (k0), (fun _ => rfl), hHB, hHW⟩)
       simp [go_sem, hu] <;> omega
      ·
       simp only [List.getElem?_toArray, List.getElem?_cons_succ, List.getElem?_cons_zero, Option.some.injEq] at ho
       subst ho
       replace hf : b10 = false := hf
       have d0 : b0 = true := hd ⟨0, .phase⟩ (by simp) rfl
       have d1 : b1 = true := hd ⟨1, .phase⟩ (by simp) rfl
       have d2 : b2 = true := hd ⟨2, .phase⟩ (by simp) rfl
       have d3 : b3 = true := hd ⟨3, .phase⟩ (by simp) rfl
       have d4 : b4 = true := hd ⟨4, .phase⟩ (by simp) rfl
       have d5 : b5 = true := hd ⟨5, .phase⟩ (by simp) rfl
       have d6 : b6 = true := hd ⟨6, .phase⟩ (by simp) rfl
       subst d0
       subst d1
       subst d2
       subst d3
       subst d4
       subst d5
       subst d6
       subst hf
       refine Go.Proofs.YtbmklpcheopgoaaReg.op_val ho2 rfl (v := .pointer (some ⟨(w.heap.size + 1 + 1), 0, none⟩)) (w1 := W') ?_ (hK _ _ ⟨true, true, true, true, true, true, true, b7, b8, b9, true, b11, b12, b13, rfl, rfl, (fun _ => rfl), (fun _ => rfl), hHB, hHW⟩)
       simp [go_sem, hu]
      ·
       simp only [List.getElem?_toArray, List.getElem?_cons_succ, List.getElem?_cons_zero, Option.some.injEq] at ho
       subst ho
       replace hf : b11 = false := hf
       have d0 : b0 = true := hd ⟨0, .phase⟩ (by simp) rfl
       have d1 : b1 = true := hd ⟨1, .phase⟩ (by simp) rfl
       have d2 : b2 = true := hd ⟨2, .phase⟩ (by simp) rfl
       have d3 : b3 = true := hd ⟨3, .phase⟩ (by simp) rfl
       have d4 : b4 = true := hd ⟨4, .data⟩ (by simp) rfl
       have d5 : b5 = true := hd ⟨5, .phase⟩ (by simp) rfl
       have d6 : b6 = true := hd ⟨6, .phase⟩ (by simp) rfl
       have d10 : b10 = true := hd ⟨10, .data⟩ (by simp) rfl
       subst d0
       subst d1
       subst d2
       subst d3
       subst d4
       subst d5
       subst d6
       subst d10
       subst hf
       refine Go.Proofs.YtbmklpcheopgoaaReg.op_skip ho2 rfl (w1 := W'.setCell ⟨(w.heap.size + 1 + 1), 0, none⟩ (.int .i64 (max ((boxSt pts i).2.f0) ((rd_T33 pts i).f0)))) ?_ (hK _ _ ⟨true, true, true, true, true, true, true, b7, b8, b9, true, true, b12, b13, rfl, rfl, (fun _ => rfl), (fun _ => rfl), Blks.set hHB 1 rfl 0 (.int .i64 (max ((boxSt pts i).2.f0) ((rd_T33 pts i).f0))), (Below.setCell hHW (by dsimp only; omega) (.int .i64 (max ((boxSt pts i).2.f0) ((rd_T33 pts i).f0))))⟩)
       simp [go_sem, hu, (Blks.cell hHB 1 rfl 0), (Blks.free hHB 1 rfl 0)]
      ·
       simp only [List.getElem?_toArray, List.getElem?_cons_succ, List.getElem?_cons_zero, Option.some.injEq] at ho
       subst ho
       replace hf : b12 = false := hf
       have d0 : b0 = true := hd ⟨0, .phase⟩ (by simp) rfl
       have d1 : b1 = true := hd ⟨1, .phase⟩ (by simp) rfl
       have d2 : b2 = true := hd ⟨2, .phase⟩ (by simp) rfl
       have d3 : b3 = true := hd ⟨3, .phase⟩ (by simp) rfl
       have d4 : b4 = true := hd ⟨4, .phase⟩ (by simp) rfl
       have d5 : b5 = true := hd ⟨5, .phase⟩ (by simp) rfl
       have d6 : b6 = true := hd ⟨6, .phase⟩ (by simp) rfl
       have d7 : b7 = true := hd ⟨7, .phase⟩ (by simp) rfl
       have d8 : b8 = true := hd ⟨8, .phase⟩ (by simp) rfl
       have d9 : b9 = true := hd ⟨9, .phase⟩ (by simp) rfl
       have d10 : b10 = true := hd ⟨10, .phase⟩ (by simp) rfl
       have d11 : b11 = true := hd ⟨11, .phase⟩ (by simp) rfl
       subst d0
       subst d1
       subst d2
       subst d3
       subst d4
       subst d5
       subst d6
       subst d7
       subst d8
       subst d9
       subst d10
       subst d11
       subst hf
       refine Go.Proofs.YtbmklpcheopgoaaReg.op_val ho2 rfl (v := .pointer (some ⟨(w.heap.size + 1 + 1), 1, none⟩)) (w1 := W') ?_ (hK _ _ ⟨true, true, true, true, true, true, true, true, true, true, true, true, true, b13, rfl, rfl, (fun _ => rfl), (fun _ => rfl), hHB, hHW⟩)
       simp [go_sem, hu]
      ·
       simp only [List.getElem?_toArray, List.getElem?_cons_succ, List.getElem?_cons_zero, Option.some.injEq] at ho
       subst ho
       replace hf : b13 = false := hf
       have d0 : b0 = true := hd ⟨0, .phase⟩ (by simp) rfl
       have d1 : b1 = true := hd ⟨1, .phase⟩ (by simp) rfl
       have d2 : b2 = true := hd ⟨2, .phase⟩ (by simp) rfl
       have d3 : b3 = true := hd ⟨3, .phase⟩ (by simp) rfl
       have d4 : b4 = true := hd ⟨4, .phase⟩ (by simp) rfl
       have d5 : b5 = true := hd ⟨5, .phase⟩ (by simp) rfl
       have d6 : b6 = true := hd ⟨6, .phase⟩ (by simp) rfl
       have d7 : b7 = true := hd ⟨7, .phase⟩ (by simp) rfl
       have d8 : b8 = true := hd ⟨8, .phase⟩ (by simp) rfl
       have d9 : b9 = true := hd ⟨9, .data⟩ (by simp) rfl
       have d10 : b10 = true := hd ⟨10, .phase⟩ (by simp) rfl
       have d11 : b11 = true := hd ⟨11, .chain⟩ (by simp) rfl
       have d12 : b12 = true := hd ⟨12, .data⟩ (by simp) rfl
       subst d0
       subst d1
       subst d2
       subst d3
       subst d4
       subst d5
       subst d6
       subst d7
       subst d8
       subst d9
       subst d10
       subst d11
       subst d12
       subst hf
       refine Go.Proofs.YtbmklpcheopgoaaReg.op_skip ho2 rfl (w1 := W'.setCell ⟨(w.heap.size + 1 + 1), 1, none⟩ (.int .i64 (max ((boxSt pts i).2.f1) ((rd_T33 pts i).f1)))) ?_ (hK _ _ ⟨true, true, true, true, true, true, true, true, true, true, true, true, true, true, rfl, rfl, (fun _ => rfl), (fun _ => rfl), Blks.set hHB 1 rfl 1 (.int .i64 (max ((boxSt pts i).2.f1) ((rd_T33 pts i).f1))), (Below.setCell hHW (by dsimp only; omega) (.int .i64 (max ((boxSt pts i).2.f1) ((rd_T33 pts i).f1))))⟩)
       simp [go_sem, hu, (Blks.cell hHB 1 rfl 1), (Blks.free hHB 1 rfl 1)]
     ·
      rintro lst a W' ⟨b0, b1, b2, b3, b4, b5, b6, b7, b8, b9, b10, b11, b12, b13, rfl, rfl, k0, k1, hHB, hHW⟩ hall
      have a0 : b0 = true := hall 0 (by decide)
      have a1 : b1 = true := hall 1 (by decide)
      have a2 : b2 = true := hall 2 (by decide)
      have a3 : b3 = true := hall 3 (by decide)
      have a4 : b4 = true := hall 4 (by decide)
      have a5 : b5 = true := hall 5 (by decide)
      have a6 : b6 = true := hall 6 (by decide)
      have a7 : b7 = true := hall 7 (by decide)
      have a8 : b8 = true := hall 8 (by decide)
      have a9 : b9 = true := hall 9 (by decide)
      have a10 : b10 = true := hall 10 (by decide)
      have a11 : b11 = true := hall 11 (by decide)
      have a12 : b12 = true := hall 12 (by decide)
      have a13 : b13 = true := hall 13 (by decide)
      subst a0 a1 a2 a3 a4 a5 a6 a7 a8 a9 a10 a11 a12 a13
      clear k0 k1
      clear hall
      have HB : Blks [(wr.heap.size, .cells #[.int .i64 ((rd_T33 pts i).f0), .int .i64 ((rd_T33 pts i).f1), .bool (rd_T33 pts i).f2] 33 (0, 0)), ((w.heap.size + 1 + 1), .cells #[.int .i64 (max ((boxSt pts i).2.f0) ((rd_T33 pts i).f0)), .int .i64 (max ((boxSt pts i).2.f1) ((rd_T33 pts i).f1)), .bool ((boxSt pts i).2.f2)] 33 (0, 0)), ((w.heap.size + 1), .cells #[.int .i64 (min ((boxSt pts i).1.f0) ((rd_T33 pts i).f0)), .int .i64 (min ((boxSt pts i).1.f1) ((rd_T33 pts i).f1)), .bool ((boxSt pts i).1.f2)] 33 (0, 0)), (w.heap.size, .cells #[.slice (some ad0) pts.length c0, v1] 25 (0, 0))] W' := hHB
      have HW : Below w.heap.size w W' := hHW
      clear hHB hHW
      go_wp2
      go_roundw
      case rel =>
       refine ⟨i + 1, by omega, by simp, ⟨?_, HW⟩⟩
       have hst : boxSt pts (i + 1) = (⟨min ((boxSt pts i).1.f0) ((rd_T33 pts i).f0), min ((boxSt pts i).1.f1) ((rd_T33 pts i).f1), (boxSt pts i).1.f2⟩, ⟨max ((boxSt pts i).2.f0) ((rd_T33 pts i).f0), max ((boxSt pts i).2.f1) ((rd_T33 pts i).f1), (boxSt pts i).2.f2⟩) := by rw [boxSt_succ]; unfold boxStep; rw [if_neg HZ.out]
       rw [hst]
       exact HB.tail
      case measure => simp [intOf]; omega
  ·
   obtain rfl : i = pts.length := by omega
   have g := HB.cells
   simp only [factsF, cellsF, boxPt] at g
   go_wp2
   refine Go.Proofs.YtbmklpcheopgoaaReg.reg_inv (by rfl) [0, 1, 2, 3, 4, 5, 6, 7, 8] (by kernel_rfl) (by kernel_rfl)
    (fun lst a W' => ∃ (b0 b1 b2 b3 b4 b5 b6 b7 b8 : Bool), lst = #[b0, b1, b2, b3, b4, b5, b6, b7, b8] ∧ a = ⟨#[.agg #[.slice A0 pts.length c0, v1], .pointer (some ⟨w.heap.size, 0, none⟩), .pointer (some ⟨(w.heap.size + 1), 0, none⟩), .pointer (some ⟨(w.heap.size + 1 + 1), 0, none⟩), (cond b8 (.bool (decide (0 < pts.length))) (.bool false)), u5, u6, .pointer (some ⟨w.heap.size, 0, none⟩), .slice A0 pts.length c0, .int .i64 pts.length, .int .i64 pts.length, .bool false, u12, u13, u14, u15, u16, u17, u18, u19, u20, u21, u22, u23, u24, u25, u26, u27, u28, u29, u30, u31, u32, u33, u34, u35, u36, u37, u38, u39, u40, u41, u42, u43, u44, u45, u46, u47, u48, u49, u50, u51, (cond b0 (.agg #[.int .i64 (boxSt pts pts.length).1.f0, .int .i64 (boxSt pts pts.length).1.f1, .bool (boxSt pts pts.length).1.f2]) undef), (cond b1 (.agg #[.int .i64 (boxSt pts pts.length).2.f0, .int .i64 (boxSt pts pts.length).2.f1, .bool (boxSt pts pts.length).2.f2]) undef), (cond b2 (.pointer (some ⟨w.heap.size, 0, none⟩)) undef), (cond b3 (.slice A0 pts.length c0) undef), (cond b4 (.int .i64 pts.length) undef), (cond b5 (.bool (decide (0 < pts.length))) undef)], []⟩ ∧ (Blks [((w.heap.size + 1 + 1), .cells #[.int .i64 (boxSt pts pts.length).2.f0, .int .i64 (boxSt pts pts.length).2.f1, .bool (boxSt pts pts.length).2.f2] 33 (0, 0)), ((w.heap.size + 1), .cells #[.int .i64 (boxSt pts pts.length).1.f0, .int .i64 (boxSt pts pts.length).1.f1, .bool (boxSt pts pts.length).1.f2] 33 (0, 0)), (w.heap.size, .cells #[.slice A0 pts.length c0, v1] 25 (0, 0))] W') ∧ (Below w.heap.size w W')) ?_ ?_ ?_ ?_
   ·
    rintro lst a W' ⟨b0, b1, b2, b3, b4, b5, b6, b7, b8, rfl, _⟩
    rfl
   ·
    exact ⟨false, false, false, false, false, false, false, false, false, rfl, rfl, HB.drew, below_drew HW⟩
   ·
    rintro lst a W' i o ⟨b0, b1, b2, b3, b4, b5, b6, b7, b8, rfl, rfl, hHB, hHW⟩ ho hf hd K hK
    have hi : i < 9 := (Array.getElem?_eq_some_iff.1 ho).1
    have ho2 := ho
    rcases (show i = 0 ∨ i = 1 ∨ i = 2 ∨ i = 3 ∨ i = 4 ∨ i = 5 ∨ i = 6 ∨ i = 7 ∨ i = 8 by omega) with rfl | rfl | rfl | rfl | rfl | rfl | rfl | rfl | rfl
    ·
     simp only [List.getElem?_toArray, List.getElem?_cons_succ, List.getElem?_cons_zero, Option.some.injEq] at ho
     subst ho
     replace hf : b0 = false := hf
     subst hf
     refine Go.Proofs.YtbmklpcheopgoaaReg.op_val ho2 rfl (v := .agg #[.int .i64 (boxSt pts pts.length).1.f0, .int .i64 (boxSt pts pts.length).1.f1, .bool (boxSt pts pts.length).1.f2]) (w1 := W') ?_ (hK _ _ ⟨true, b1, b2, b3, b4, b5, b6, b7, b8, rfl, rfl, hHB, hHW⟩)
     simp [go_sem, hu, (Blks.cell hHB 1 rfl 0), (Blks.cell hHB 1 rfl 1), (Blks.cell hHB 1 rfl 2)]
    ·
     simp only [List.getElem?_toArray, List.getElem?_cons_succ, List.getElem?_cons_zero, Option.some.injEq] at ho
     subst ho
     replace hf : b1 = false := hf
     subst hf
     refine Go.Proofs.YtbmklpcheopgoaaReg.op_val ho2 rfl (v := .agg #[.int .i64 (boxSt pts pts.length).2.f0, .int .i64 (boxSt pts pts.length).2.f1, .bool (boxSt pts pts.length).2.f2]) (w1 := W') ?_ (hK _ _ ⟨b0, true, b2, b3, b4, b5, b6, b7, b8, rfl, rfl, hHB, hHW⟩)
     simp [go_sem, hu, (Blks.cell hHB 0 rfl 0), (Blks.cell hHB 0 rfl 1), (Blks.cell hHB 0 rfl 2)]
    ·
     simp only [List.getElem?_toArray, List.getElem?_cons_succ, List.getElem?_cons_zero, Option.some.injEq] at ho
     subst ho
     replace hf : b2 = false := hf
     subst hf
     refine Go.Proofs.YtbmklpcheopgoaaReg.op_val ho2 rfl (v := .pointer (some ⟨w.heap.size, 0, none⟩)) (w1 := W') ?_ (hK _ _ ⟨b0, b1, true, b3, b4, b5, b6, b7, b8, rfl, rfl, hHB, hHW⟩)
     simp [go_sem, hu2]
    ·
     simp only [List.getElem?_toArray, List.getElem?_cons_succ, List.getElem?_cons_zero, Option.some.injEq] at ho
     subst ho
     replace hf : b3 = false := hf
     have d2 : b2 = true := hd ⟨2, .data⟩ (by simp) rfl
     subst d2
     subst hf
     refine Go.Proofs.YtbmklpcheopgoaaReg.op_val ho2 rfl (v := .slice A0 pts.length c0) (w1 := W') ?_ (hK _ _ ⟨b0, b1, true, true, b4, b5, b6, b7, b8, rfl, rfl, hHB, hHW⟩)
     simp [go_sem, hu2, (Blks.cell hHB 2 rfl 0)]
    ·
     simp only [List.getElem?_toArray, List.getElem?_cons_succ, List.getElem?_cons_zero, Option.some.injEq] at ho
     subst ho
     replace hf : b4 = false := hf
     have d3 : b3 = true := hd ⟨3, .data⟩ (by simp) rfl
     subst d3
     subst hf
     refine Go.Proofs.YtbmklpcheopgoaaReg.op_val ho2 rfl (v := .int .i64 pts.length) (w1 := W') ?_ (hK _ _ ⟨b0, b1, b2, true, true, b5, b6, b7, b8, rfl, rfl, hHB, hHW⟩)
     simp [go_sem, hu2]
    ·
     simp only [List.getElem?_toArray, List.getElem?_cons_succ, List.getElem?_cons_zero, Option.some.injEq] at ho
     subst ho
     replace hf : b5 = false := hf
     have d4 : b4 = true := hd ⟨4, .data⟩ (by simp) rfl
     subst d4
     subst hf
     refine Go.Proofs.YtbmklpcheopgoaaReg.op_val ho2 rfl (v := .bool (decide (0 < pts.length))) (w1 := W') ?_ (hK _ _ ⟨b0, b1, b2, b3, true, true, b6, b7, b8, rfl, rfl, hHB, hHW⟩)
     simp [go_sem, hu2]
    ·
     simp only [List.getElem?_toArray, List.getElem?_cons_succ, List.getElem?_cons_zero, Option.some.injEq] at ho
     subst ho
     replace hf : b6 = false := hf
     have d0 : b0 = true := hd ⟨0, .data⟩ (by simp) rfl
     subst d0
     subst hf
     refine Go.Proofs.YtbmklpcheopgoaaReg.op_skip ho2 rfl (w1 := (((W'.setCell ⟨(w.heap.size + 1), 0, none⟩ (.int .i64 (boxSt pts pts.length).1.f0)).setCell ⟨(w.heap.size + 1), 1, none⟩ (.int .i64 (boxSt pts pts.length).1.f1)).setCell ⟨(w.heap.size + 1), 2, none⟩ (.bool (boxSt pts pts.length).1.f2))) ?_ (hK _ _ ⟨true, b1, b2, b3, b4, b5, true, b7, b8, rfl, rfl, (Blks.set (Blks.set (Blks.set hHB 1 rfl 0 (.int .i64 (boxSt pts pts.length).1.f0)) 1 rfl 1 (.int .i64 (boxSt pts pts.length).1.f1)) 1 rfl 2 (.bool (boxSt pts pts.length).1.f2)), (Below.setCell (Below.setCell (Below.setCell hHW (by dsimp only; omega) (.int .i64 (boxSt pts pts.length).1.f0)) (by dsimp only; omega) (.int .i64 (boxSt pts pts.length).1.f1)) (by dsimp only; omega) (.bool (boxSt pts pts.length).1.f2))⟩)
     simp [go_sem, hu, (Blks.cell hHB 1 rfl 0), (Blks.cell hHB 1 rfl 1), (Blks.cell hHB 1 rfl 2), (Blks.free hHB 1 rfl 0), (Blks.free hHB 1 rfl 1), (Blks.free hHB 1 rfl 2)]
    ·
     simp only [List.getElem?_toArray, List.getElem?_cons_succ, List.getElem?_cons_zero, Option.some.injEq] at ho
     subst ho
     replace hf : b7 = false := hf
     have d0 : b0 = true := hd ⟨0, .phase⟩ (by simp) rfl
     have d1 : b1 = true := hd ⟨1, .data⟩ (by simp) rfl
     have d6 : b6 = true := hd ⟨6, .chain⟩ (by simp) rfl
     subst d0
     subst d1
     subst d6
     subst hf
     refine Go.Proofs.YtbmklpcheopgoaaReg.op_skip ho2 rfl (w1 := (((W'.setCell ⟨(w.heap.size + 1 + 1), 0, none⟩ (.int .i64 (boxSt pts pts.length).2.f0)).setCell ⟨(w.heap.size + 1 + 1), 1, none⟩ (.int .i64 (boxSt pts pts.length).2.f1)).setCell ⟨(w.heap.size + 1 + 1), 2, none⟩ (.bool (boxSt pts pts.length).2.f2))) ?_ (hK _ _ ⟨true, true, b2, b3, b4, b5, true, true, b8, rfl, rfl, (Blks.set (Blks.set (Blks.set hHB 0 rfl 0 (.int .i64 (boxSt pts pts.length).2.f0)) 0 rfl 1 (.int .i64 (boxSt pts pts.length).2.f1)) 0 rfl 2 (.bool (boxSt pts pts.length).2.f2)), (Below.setCell (Below.setCell (Below.setCell hHW (by dsimp only; omega) (.int .i64 (boxSt pts pts.length).2.f0)) (by dsimp only; omega) (.int .i64 (boxSt pts pts.length).2.f1)) (by dsimp only; omega) (.bool (boxSt pts pts.length).2.f2))⟩)
     simp [go_sem, hu, (Blks.cell hHB 0 rfl 0), (Blks.cell hHB 0 rfl 1), (Blks.cell hHB 0 rfl 2), (Blks.free hHB 0 rfl 0), (Blks.free hHB 0 rfl 1), (Blks.free hHB 0 rfl 2)]
    ·
     simp only [List.getElem?_toArray, List.getElem?_cons_succ, List.getElem?_cons_zero, Option.some.injEq] at ho
     subst ho
     replace hf : b8 = false := hf
     have d0 : b0 = true := hd ⟨0, .phase⟩ (by simp) rfl
     have d1 : b1 = true := hd ⟨1, .phase⟩ (by simp) rfl
     have d2 : b2 = true := hd ⟨2, .phase⟩ (by simp) rfl
     have d3 : b3 = true := hd ⟨3, .phase⟩ (by simp) rfl
     have d4 : b4 = true := hd ⟨4, .phase⟩ (by simp) rfl
     have d5 : b5 = true := hd ⟨5, .data⟩ (by simp) rfl
     have d6 : b6 = true := hd ⟨6, .phase⟩ (by simp) rfl
     have d7 : b7 = true := hd ⟨7, .chain⟩ (by simp) rfl
     subst d0
     subst d1
     subst d2
     subst d3
     subst d4
     subst d5
     subst d6
     subst d7
     subst hf
     refine Go.Proofs.YtbmklpcheopgoaaReg.op_val ho2 rfl (v := .bool (decide (0 < pts.length))) (w1 := W') ?_ (hK _ _ ⟨true, true, true, true, true, true, true, true, true, rfl, rfl, hHB, hHW⟩)
     simp [go_sem, hu2]
   ·
    rintro lst a W' ⟨b0, b1, b2, b3, b4, b5, b6, b7, b8, rfl, rfl, hHB, hHW⟩ hall
    have a0 : b0 = true := hall 0 (by decide)
    have a1 : b1 = true := hall 1 (by decide)
    have a2 : b2 = true := hall 2 (by decide)
    have a3 : b3 = true := hall 3 (by decide)
    have a4 : b4 = true := hall 4 (by decide)
    have a5 : b5 = true := hall 5 (by decide)
    have a6 : b6 = true := hall 6 (by decide)
    have a7 : b7 = true := hall 7 (by decide)
    have a8 : b8 = true := hall 8 (by decide)
    subst a0 a1 a2 a3 a4 a5 a6 a7 a8
    clear hall
    have HB : Blks [((w.heap.size + 1 + 1), .cells #[.int .i64 (boxSt pts pts.length).2.f0, .int .i64 (boxSt pts pts.length).2.f1, .bool (boxSt pts pts.length).2.f2] 33 (0, 0)), ((w.heap.size + 1), .cells #[.int .i64 (boxSt pts pts.length).1.f0, .int .i64 (boxSt pts pts.length).1.f1, .bool (boxSt pts pts.length).1.f2] 33 (0, 0)), (w.heap.size, .cells #[.slice A0 pts.length c0, v1] 25 (0, 0))] W' := hHB
    have HW : Below w.heap.size w W' := hHW
    clear hHB hHW
    go_wp2
    refine bodyPost_ret (v := .tuple #[.agg #[.int .i64 (boxSt pts pts.length).1.f0, .int .i64 (boxSt pts pts.length).1.f1, .bool (boxSt pts pts.length).1.f2], .agg #[.int .i64 (boxSt pts pts.length).2.f0, .int .i64 (boxSt pts pts.length).2.f1, .bool (boxSt pts pts.length).2.f2], .bool (decide (0 < pts.length))]) ?_ rfl ⟨rfl, HW⟩
    simp [results, Try.f19, go_sem, HB.cell 0 rfl 0, HB.cell 0 rfl 1, HB.cell 0 rfl 2, HB.cell 1 rfl 0, HB.cell 1 rfl 1, HB.cell 1 rfl 2]

def outline_Box.f (l0_0 : List S33) (l0_1 : List Int) : Option (Int × Int × Bool × Int × Int × Bool × Bool) :=
 some ((boxSt l0_0 l0_0.length).1.f0, (boxSt l0_0 l0_0.length).1.f1, (boxSt l0_0 l0_0.length).1.f2, (boxSt l0_0 l0_0.length).2.f0, (boxSt l0_0 l0_0.length).2.f1, (boxSt l0_0 l0_0.length).2.f2, decide (0 < l0_0.length))
theorem outline_Box.calls (A0_0 : Option Addr) (c0_0 : Nat) (l0_0 : List (S33)) (A0_1 : Option Addr) (c0_1 : Nat) (l0_1 : List Int) (r1 : Int) (r2 : Int) (r3 : Bool) (r4 : Int) (r5 : Int) (r6 : Bool) (r7 : Bool) (w : World) (hr0_0 : Kd.C k33 w A0_0 l0_0.length l0_0) (hc0_0 : l0_0.length ≤ c0_0) (hr0_1 : Kd.C (Kd.int .i64) w A0_1 l0_1.length l0_1) (hc0_1 : l0_1.length ≤ c0_1) (h : outline_Box.f l0_0 l0_1 = some (r1, r2, r3, r4, r5, r6, r7)) :
  Calls Try.prog 19 #[.agg #[.slice A0_0 l0_0.length c0_0, .slice A0_1 l0_1.length c0_1]] w fun e w' => e = .returned (.tuple #[.agg #[.int .i64 r1, .int .i64 r2, .bool r3], .agg #[.int .i64 r4, .int .i64 r5, .bool r6], .bool r7]) ∧ Below w.heap.size w w' := by
 unfold outline_Box.f at h
 simp only [Option.some.injEq, Prod.mk.injEq] at h
 obtain ⟨rfl, rfl, rfl, rfl, rfl, rfl, rfl⟩ := h
 exact box_calls A0_0 c0_0 l0_0 _ w hr0_0 hc0_0

end Go.Proofs.Ytbmklpcheopgoaa.H

namespace Go.Proofs.Ytbmklpcheopgoaa.H
open Go.RowKit Go.Proofs.YtbmklpcheopgoaaW.PrintWords Go.Proofs.YtbmklpcheopgoaaW.PrintLast Go.Proofs.YtbmklpcheopgoaaW.PrintMore
attribute [local go_sem] max2_int min2_int max_two min_two max_three min_three max_four min_four   -- for this text's walks alone
set_option linter.unusedVariables false
set_option linter.unusedSimpArgs false

/-! ### outline_Right: function 22 -/
mutual
def outline_Right.j0 : Nat → Bool → List (S33) → List Int → Option (Bool)
 | 0, _, _, _ => none
 | k + 1, x17, x144000, x144001 => if x17 = true then (some false) else (outline_Right.l0 k x144000 (x144000.length : Int) 0 x144000 x144001)
def outline_Right.l0 : Nat → List (S33) → Int → Int → List (S33) → List Int → Option (Bool)
 | 0, _, _, _, _, _ => none
 | k + 1, x19, x20, x21, x144000, x144001 => if x21 < x20 then (if 0 ≤ x21 then (if x21 < (x19.length : Int) then (if (mx ((rd_T33 x19 x21).f0) ((rd_T33 x19 x21).f1)) > 16384 then (some false) else (if (mn ((rd_T33 x19 x21).f0) ((rd_T33 x19 x21).f1)) < (-16384) then (some false) else (outline_Right.l0 k x19 x20 (wrap64 (x21 + 1)) x144000 x144001))) else (none)) else (none)) else (outline_Right.l1 k (-1) x144001 (x144001.length : Int) 0 x144000 x144001)
def outline_Right.l1 : Nat → Int → List Int → Int → Int → List (S33) → List Int → Option (Bool)
 | 0, _, _, _, _, _, _ => none
 | k + 1, x5, x41, x42, x43, x144000, x144001 => if x43 < x42 then (if 0 ≤ x43 then (if x43 < (x41.length : Int) then (if (rd x41 x43) < (wrap64 (x5 + 2)) then (some false) else (if (rd x41 x43) ≥ (x144000.length : Int) then (some false) else (outline_Right.l1 k (rd x41 x43) x41 x42 (wrap64 (x43 + 1)) x144000 x144001))) else (none)) else (none)) else (some (x5 == (wrap64 ((x144000.length : Int) - 1))))
end
def outline_Right.f (k : Nat) (l0_0 : List (S33)) (l0_1 : List Int) : Option (Bool) := if (l0_0.length : Int) > 200 then (outline_Right.j0 k true l0_0 l0_1) else (outline_Right.j0 k (decide ((l0_1.length : Int) > 40)) l0_0 l0_1)
theorem outline_Right.mono_l : ∀ k, (∀ y0 y1 y2, LeO (outline_Right.j0 k y0 y1 y2) (outline_Right.j0 (k + 1) y0 y1 y2)) ∧ (∀ y0 y1 y2 y3 y4, LeO (outline_Right.l0 k y0 y1 y2 y3 y4) (outline_Right.l0 (k + 1) y0 y1 y2 y3 y4)) ∧ (∀ y0 y1 y2 y3 y4 y5, LeO (outline_Right.l1 k y0 y1 y2 y3 y4 y5) (outline_Right.l1 (k + 1) y0 y1 y2 y3 y4 y5))
 | 0 => ⟨fun _ _ _ r h => by simp [outline_Right.j0] at h, fun _ _ _ _ _ r h => by simp [outline_Right.l0] at h, fun _ _ _ _ _ _ r h => by simp [outline_Right.l1] at h⟩
 | k + 1 => by
  obtain ⟨ih0, ih1, ih2⟩ := outline_Right.mono_l k
  refine ⟨?_, ?_, ?_⟩
  ·
   intro y0 y1 y2
   unfold outline_Right.j0
   repeat' first
   | (with_reducible exact ih0 _ _ _)
   | (with_reducible exact ih1 _ _ _ _ _)
   | (with_reducible exact ih2 _ _ _ _ _ _)
   | (with_reducible exact LeO.refl _)
   | (with_reducible exact LeO.none _)
   | (with_reducible refine LeO.ite ?_ ?_)
   | (with_reducible refine LeO.bind ?_ (fun _ => ?_))
   | exact ih0 _ _ _
   | exact ih1 _ _ _ _ _
   | exact ih2 _ _ _ _ _ _
   | exact LeO.none _
   | refine LeO.ite ?_ ?_
   | refine LeO.bind ?_ (fun _ => ?_)
  ·
   intro y0 y1 y2 y3 y4
   unfold outline_Right.l0
   repeat' first
   | (with_reducible exact ih0 _ _ _)
   | (with_reducible exact ih1 _ _ _ _ _)
   | (with_reducible exact ih2 _ _ _ _ _ _)
   | (with_reducible exact LeO.refl _)
   | (with_reducible exact LeO.none _)
   | (with_reducible refine LeO.ite ?_ ?_)
   | (with_reducible refine LeO.bind ?_ (fun _ => ?_))
   | exact ih0 _ _ _
   | exact ih1 _ _ _ _ _
   | exact ih2 _ _ _ _ _ _
   | exact LeO.none _
   | refine LeO.ite ?_ ?_
   | refine LeO.bind ?_ (fun _ => ?_)
  ·
   intro y0 y1 y2 y3 y4 y5
   unfold outline_Right.l1
   repeat' first
   | (with_reducible exact ih0 _ _ _)
   | (with_reducible exact ih1 _ _ _ _ _)
   | (with_reducible exact ih2 _ _ _ _ _ _)
   | (with_reducible exact LeO.refl _)
   | (with_reducible exact LeO.none _)
   | (with_reducible refine LeO.ite ?_ ?_)
   | (with_reducible refine LeO.bind ?_ (fun _ => ?_))
   | exact ih0 _ _ _
   | exact ih1 _ _ _ _ _
   | exact ih2 _ _ _ _ _ _
   | exact LeO.none _
   | refine LeO.ite ?_ ?_
   | refine LeO.bind ?_ (fun _ => ?_)
theorem outline_Right.mono : ∀ a0 a1 k, LeO (outline_Right.f k a0 a1) (outline_Right.f (k + 1) a0 a1) := by
 intro a0 a1 k
 obtain ⟨ih0, ih1, ih2⟩ := outline_Right.mono_l k
 unfold outline_Right.f
 repeat' first
   | (with_reducible exact ih0 _ _ _)
   | (with_reducible exact ih1 _ _ _ _ _)
   | (with_reducible exact ih2 _ _ _ _ _ _)
   | (with_reducible exact LeO.refl _)
   | (with_reducible exact LeO.none _)
   | (with_reducible refine LeO.ite ?_ ?_)
   | (with_reducible refine LeO.bind ?_ (fun _ => ?_))
   | exact ih0 _ _ _
   | exact ih1 _ _ _ _ _
   | exact ih2 _ _ _ _ _ _
   | exact LeO.none _
   | refine LeO.ite ?_ ?_
   | refine LeO.bind ?_ (fun _ => ?_)
set_option maxHeartbeats 8000000 in
set_option maxRecDepth 100000 in
theorem outline_Right.calls (k : Nat) (A0_0 : Option Addr) (c0_0 : Nat) (l0_0 : List (S33)) (A0_1 : Option Addr) (c0_1 : Nat) (l0_1 : List Int) (r : Bool) (w : World) (hr0_0 : Kd.C k33 w A0_0 l0_0.length l0_0) (hc0_0 : l0_0.length ≤ c0_0) (hr0_1 : Kd.C (Kd.int .i64) w A0_1 l0_1.length l0_1) (hc0_1 : l0_1.length ≤ c0_1) (h : outline_Right.f k l0_0 l0_1 = some r) :
  Calls Try.prog 22 #[.agg #[.slice A0_0 l0_0.length c0_0, .slice A0_1 l0_1.length c0_1]] w fun e w' => e = .returned (.bool r) ∧ Below w.heap.size w w' := by
 have hu25 := Try.underlying25
 have hu33 := Try.underlying33
 have HR0_0 := aM hr0_0
 have HC0_0 := aM hc0_0
 clear hr0_0 hc0_0
 have HR0_1 := aM hr0_1
 have HC0_1 := aM hc0_1
 clear hr0_1 hc0_1
 have HB := aM (Below.refl w.heap.size w)
 have H : (if (l0_0.length : Int) > 200 then (outline_Right.j0 k true l0_0 l0_1) else (outline_Right.j0 k (decide ((l0_1.length : Int) > 40)) l0_0 l0_1)) = some r := h
 clear h
 have HC2 := aM H
 clear H
 go_enter Try.func22, Try.ntmps22
 go_upto_region 1 with (first | ((with_reducible refine gate_dst (N := 1) rfl ?_); (try (refine gate_guard (by rfl) ?_; dsimp only)); refine box_event ?hg (N := 1) ?hd (cs := #[.slice A0_0 l0_0.length c0_0, .slice A0_1 l0_1.length c0_1]) (t := 25) ?hr ?_; (case hd => rfl); (case hg => rfl); (case hr => first | (go_simp; done) | (go_simp; rfl)); intro gb143 hg w3 hbox hb; have n0_ := aM (below_step (by repeat (first | (with_reducible first | exact HB.out | apply bA | apply bN | apply bD) | exact HB.out)) hb); have n1_ := aM (hbox); have n2_ := aM ((by rw [hg]; exact (below_size (by repeat (first | (with_reducible first | exact HB.out | apply bA | apply bN | apply bD) | exact HB.out))) : w.heap.size ≤ gb143)); have n3_ := aM ((by rw [hg]; exact (below_size (by repeat (first | (with_reducible first | exact HB.out | apply bA | apply bN | apply bD) | exact HB.out))) : w.heap.size ≤ gb143)); clear HB; have HB := n0_; have BK143 := n1_; have GW143 := n2_; have GE143 := n3_; clear n0_ n1_ n2_ n3_; clear hb hbox hg))
 (try simp only [Act.put, List.setIfInBounds_toArray, List.set_cons_zero, List.set_cons_succ])
 go_cut [17] (fun v17 wc => ∃ (kq : Nat) (x17_1 : Bool), v17 = .bool x17_1 ∧ Aside0 (outline_Right.j0 kq x17_1 l0_0 l0_1 = some r) ∧ Aside0 (kq ≤ k) ∧ Aside0 (wc.heap[gb143]? = some (.cells #[(.slice A0_0 l0_0.length c0_0), (.slice A0_1 l0_1.length c0_1)] 25 (0, 0))) ∧ Aside0 (Below w.heap.size w wc))
 case first =>
  have H := HC2.out
  clear HC2
  by_cases c4 : (l0_0.length : Int) > 200
  ·
   rw [if_pos c4] at H
   have c4b0 : decide (200 < (l0_0.length : Int)) = true := decide_eq_true c4
   have c4b1 : decide (200 < l0_0.length) = true := decide_eq_true (by omega)
   clear c4
   (first | rw [c4b0] | (simp only [i64_w, i32_w]; rw [c4b0]) | skip)
   have H' := aM H
   clear H
   have hcz5_0 : w3.cell? ⟨gb143, 0, none⟩ = some (.slice A0_0 l0_0.length c0_0) := (blk_cell BK143.out 0).trans rfl
   have hcz5_1 : w3.cell? ⟨gb143, 1, none⟩ = some (.slice A0_1 l0_1.length c0_1) := (blk_cell BK143.out 1).trans rfl
   have hfz5_0 := blk_frozen BK143.out 0
   have hfz5_1 := blk_frozen BK143.out 1
   go_wp2
   go_meet
   case rel => exact ⟨_, (true), (by first | rfl | (simp; done) | (simp [*]; done)), H', ⟨by first | omega | exact Nat.le_refl _⟩, ⟨by (with_reducible repeat (first | refine kN ?_ _ | refine kD ?_ | refine kA ?_ _)); exact BK143.out⟩, ⟨by repeat (first | (with_reducible first | exact HB.out | apply bA | apply bN | apply bD | refine bS ?_ GE143.out) | exact HB.out)⟩⟩
  ·
   rw [if_neg c4] at H
   have c4b0 : decide (200 < (l0_0.length : Int)) = false := decide_eq_false c4
   have c4b1 : decide (200 < l0_0.length) = false := decide_eq_false (by omega)
   clear c4
   (first | rw [c4b0] | (simp only [i64_w, i32_w]; rw [c4b0]) | skip)
   have H' := aM H
   clear H
   have hcz6_0 : w3.cell? ⟨gb143, 0, none⟩ = some (.slice A0_0 l0_0.length c0_0) := (blk_cell BK143.out 0).trans rfl
   have hcz6_1 : w3.cell? ⟨gb143, 1, none⟩ = some (.slice A0_1 l0_1.length c0_1) := (blk_cell BK143.out 1).trans rfl
   have hfz6_0 := blk_frozen BK143.out 0
   have hfz6_1 := blk_frozen BK143.out 1
   go_wp2
   go_meet
   case rel => exact ⟨_, (decide ((l0_1.length : Int) > 40)), (by first | rfl | (simp; done) | (simp [*]; done)), H', ⟨by first | omega | exact Nat.le_refl _⟩, ⟨by (with_reducible repeat (first | refine kN ?_ _ | refine kD ?_ | refine kA ?_ _)); exact BK143.out⟩, ⟨by repeat (first | (with_reducible first | exact HB.out | apply bA | apply bN | apply bD | refine bS ?_ GE143.out) | exact HB.out)⟩⟩
 case rest =>
  clear HC2
  try clear c2
  try clear p2
  try clear c4
  try clear c4b0
  try clear c4b1
  try clear hcz5_0
  try clear hcz5_1
  try clear hcz6_0
  try clear hcz6_1
  try clear hfz5_0
  try clear hfz5_1
  try clear hfz6_0
  try clear hfz6_1
  obtain ⟨kq, x17_1, rfl, HA, HJ1, BK143, HB⟩ := hcut
  cases kq with
  | zero => exact absurd HA.out (by simp [outline_Right.j0])
  | succ kj1 =>
   have H := HA.out
   clear HA
   simp only [outline_Right.j0] at H
   by_cases c7 : x17_1 = true
   ·
    subst c7
    have H1 : (some false) = some r := by rw [if_pos rfl] at H; exact H
    clear H
    have H := H1
    clear H1
    obtain rfl := Option.some.inj H
    go_wp2
    go_ret
    exact ⟨by first | rfl | (simp [errW_none, errW_some] <;> rfl) | (simp [*, errW_none, errW_some] <;> rfl), by repeat (first | (with_reducible first | exact HB.out | apply bA | apply bN | apply bD | refine bS ?_ GE143.out) | exact HB.out)⟩
   ·
    replace c7 := Bool.eq_false_iff.mpr c7
    subst c7
    have H1 : (outline_Right.l0 kj1 l0_0 (l0_0.length : Int) 0 l0_0 l0_1) = some r := by rw [if_neg (show ¬ (false = true) by decide)] at H; exact H
    clear H
    have H := H1
    clear H1
    have H' := aM H
    clear H
    have hcz8_0 : wc.cell? ⟨gb143, 0, none⟩ = some (.slice A0_0 l0_0.length c0_0) := (blk_cell BK143.out 0).trans rfl
    have hcz8_1 : wc.cell? ⟨gb143, 1, none⟩ = some (.slice A0_1 l0_1.length c0_1) := (blk_cell BK143.out 1).trans rfl
    have hfz8_0 := blk_frozen BK143.out 0
    have hfz8_1 := blk_frozen BK143.out 1
    go_wp2
    go_loopg [21] kj1 (fun kq v21 w' => ∃ (x21_2 : Int), v21 = .int .i64 x21_2 ∧ Aside0 (outline_Right.l0 kq l0_0 (l0_0.length : Int) x21_2 l0_0 l0_1 = some r) ∧ Aside0 (kq ≤ kj1) ∧ Aside0 (w'.heap[gb143]? = some (.cells #[(.slice A0_0 l0_0.length c0_0), (.slice A0_1 l0_1.length c0_1)] 25 (0, 0))) ∧ Aside0 (Below w.heap.size w w'))
    case atStart => exact ⟨(0), (by first | rfl | (simp; done) | (simp [*]; done)), H', ⟨Nat.le_refl _⟩, ⟨by (with_reducible repeat (first | refine kN ?_ _ | refine kD ?_ | refine kA ?_ _)); exact BK143.out⟩, ⟨by repeat (first | (with_reducible first | exact HB.out | apply bA | apply bN | apply bD | refine bS ?_ GE143.out) | exact HB.out)⟩⟩
    case round =>
     clear H'
     try clear c2
     try clear p2
     try clear c4
     try clear c4b0
     try clear c4b1
     try clear c7
     try clear hcz5_0
     try clear hcz5_1
     try clear hcz6_0
     try clear hcz6_1
     try clear hcz8_0
     try clear hcz8_1
     try clear hfz5_0
     try clear hfz5_1
     try clear hfz6_0
     try clear hfz6_1
     try clear hfz8_0
     try clear hfz8_1
     try clear p2
     obtain ⟨x21_2, rfl, HA, HK2, BK143, HB⟩ := hrel
     cases gk with
     | zero => exact absurd HA.out (by simp [outline_Right.l0])
     | succ k2 =>
      have H := HA.out
      clear HA
      simp only [outline_Right.l0] at H
      by_cases c9 : x21_2 < (l0_0.length : Int)
      ·
       rw [if_pos c9] at H
       have c9b0 : decide (x21_2 < (l0_0.length : Int)) = true := decide_eq_true c9
       clear c9
       by_cases c10 : 0 ≤ x21_2
       ·
        rw [if_pos c10] at H
        have c10b0 : decide (0 ≤ x21_2) = true := decide_eq_true c10
        clear c10
        by_cases c11 : x21_2 < (l0_0.length : Int)
        ·
         rw [if_pos c11] at H
         have c11b0 : decide (x21_2 < (l0_0.length : Int)) = true := decide_eq_true c11
         clear c11
         obtain ⟨ji12, hji12⟩ : ∃ j_ : Int, (mx ((rd_T33 l0_0 x21_2).f0) ((rd_T33 l0_0 x21_2).f1)) = j_ := ⟨_, rfl⟩
         replace H : (if (ji12) > 16384 then (some false) else (if (mn ((rd_T33 l0_0 x21_2).f0) ((rd_T33 l0_0 x21_2).f1)) < (-16384) then (some false) else (outline_Right.l0 k2 l0_0 (l0_0.length : Int) (wrap64 (x21_2 + 1)) l0_0 l0_1))) = some r := by first | (rw [hji12] at H; exact H) | (simp only [hji12] at H ⊢; exact H)
         have hji12_ : (if ((rd_T33 l0_0 x21_2).f0) < ((rd_T33 l0_0 x21_2).f1) then ((rd_T33 l0_0 x21_2).f1) else ((rd_T33 l0_0 x21_2).f0)) = ji12 := hji12
         by_cases c13 : (ji12) > 16384
         ·
          rw [if_pos c13] at H
          have c13b0 : decide (16384 < (ji12)) = true := decide_eq_true c13
          clear c13
          obtain rfl := Option.some.inj H
          have p144 : 0 ≤ (x21_2 : Int) := of_decide_eq_true (by assumption)
          have q144 : x21_2 < (l0_0.length : Int) := of_decide_eq_true (by assumption)
          obtain ⟨ad144, e144, hx144_0, hx144_1, hx144_2⟩ := at_T33 HR0_0.out x21_2 p144 q144
          cases e144
          replace hx144_0 := (HB.out.cell (World.block_lt_of_cell? w _ hx144_0)).trans hx144_0
          replace hx144_1 := (HB.out.cell (World.block_lt_of_cell? w _ hx144_1)).trans hx144_1
          replace hx144_2 := (HB.out.cell (World.block_lt_of_cell? w _ hx144_2)).trans hx144_2
          replace p144 := eq_true p144
          replace q144 := eq_true q144
          go_wp2_with (first | ((with_reducible refine gate_dst (N := 4) rfl ?_); (try (refine gate_guard (by rfl) ?_; dsimp only)); refine box_event ?hg (N := 4) ?hd (cs := #[.int .i64 0, .int .i64 0, .bool false]) (t := 33) ?hr ?_; (case hd => rfl); (case hg => rfl); (case hr => first | (go_simp; done) | (go_simp; rfl)); intro gb145 hg w14 hbox hb; have n0_ := aM (blk_below (g := gb143) (o := .cells #[.slice (some ad144) l0_0.length c0_0, .slice A0_1 l0_1.length c0_1] 25 (0, 0)) (by (with_reducible repeat (first | refine kN ?_ _ | refine kD ?_ | refine kA ?_ _)); exact BK143.out) hb); have n1_ := aM (below_step (by repeat (first | (with_reducible first | exact HB.out | apply bA | apply bN | apply bD | refine bS ?_ GE143.out) | exact HB.out)) hb); have n2_ := aM (hbox); have n3_ := aM ((by rw [hg]; exact (below_size (by repeat (first | (with_reducible first | exact HB.out | apply bA | apply bN | apply bD | refine bS ?_ GE143.out) | exact HB.out))) : w.heap.size ≤ gb145)); have n4_ := aM ((by rw [hg]; exact (below_size (by repeat (first | (with_reducible first | exact HB.out | apply bA | apply bN | apply bD | refine bS ?_ GE143.out) | exact HB.out))) : w.heap.size ≤ gb145)); have n5_ := aM ((by rw [hg]; exact Nat.ne_of_lt (blk_lt (g := gb143) (o := .cells #[.slice (some ad144) l0_0.length c0_0, .slice A0_1 l0_1.length c0_1] 25 (0, 0)) (by (with_reducible repeat (first | refine kN ?_ _ | refine kD ?_ | refine kA ?_ _)); exact BK143.out)) : gb143 ≠ gb145)); have n6_ := aM ((by rw [hg]; exact Nat.ne_of_gt (blk_lt (g := gb143) (o := .cells #[.slice (some ad144) l0_0.length c0_0, .slice A0_1 l0_1.length c0_1] 25 (0, 0)) (by (with_reducible repeat (first | refine kN ?_ _ | refine kD ?_ | refine kA ?_ _)); exact BK143.out)) : gb145 ≠ gb143)); clear BK143; clear HB; have BK143 := n0_; have HB := n1_; have BK145 := n2_; have GW145 := n3_; have GE145 := n4_; have NB143_145 := n5_; have NB145_143 := n6_; clear n0_ n1_ n2_ n3_ n4_ n5_ n6_; clear hb hbox hg; have hnb15 := NB145_143.out; have hnc15 := NB143_145.out; have hcz16_0 : w14.cell? ⟨gb145, 0, none⟩ = some (.int .i64 0) := (blk_cell BK145.out 0).trans rfl; have hcz16_1 : w14.cell? ⟨gb145, 1, none⟩ = some (.int .i64 0) := (blk_cell BK145.out 1).trans rfl; have hcz16_2 : w14.cell? ⟨gb145, 2, none⟩ = some (.bool false) := (blk_cell BK145.out 2).trans rfl; have hfz16_0 := blk_frozen BK145.out 0; have hfz16_1 := blk_frozen BK145.out 1; have hfz16_2 := blk_frozen BK145.out 2))
          go_ret
          exact ⟨by first | rfl | (simp [errW_none, errW_some] <;> rfl) | (simp only [← hji12]; first | rfl | (simp [errW_none, errW_some] <;> rfl)) | (simp [*, errW_none, errW_some] <;> rfl), by repeat (first | (with_reducible first | exact HB.out | apply bA | apply bN | apply bD | refine bS ?_ GE143.out | refine bS ?_ GE145.out) | exact HB.out)⟩
         ·
          rw [if_neg c13] at H
          have c13b0 : decide (16384 < (ji12)) = false := decide_eq_false c13
          clear c13
          obtain ⟨ji17, hji17⟩ : ∃ j_ : Int, (mn ((rd_T33 l0_0 x21_2).f0) ((rd_T33 l0_0 x21_2).f1)) = j_ := ⟨_, rfl⟩
          replace H : (if (ji17) < (-16384) then (some false) else (outline_Right.l0 k2 l0_0 (l0_0.length : Int) (wrap64 (x21_2 + 1)) l0_0 l0_1)) = some r := by first | (rw [hji17] at H; exact H) | (simp only [hji17] at H ⊢; exact H)
          have hji17_ : (if ((rd_T33 l0_0 x21_2).f1) < ((rd_T33 l0_0 x21_2).f0) then ((rd_T33 l0_0 x21_2).f1) else ((rd_T33 l0_0 x21_2).f0)) = ji17 := hji17
          by_cases c18 : (ji17) < (-16384)
          ·
           rw [if_pos c18] at H
           have c18b0 : decide ((ji17) < (-16384)) = true := decide_eq_true c18
           clear c18
           obtain rfl := Option.some.inj H
           have p144 : 0 ≤ (x21_2 : Int) := of_decide_eq_true (by assumption)
           have q144 : x21_2 < (l0_0.length : Int) := of_decide_eq_true (by assumption)
           obtain ⟨ad144, e144, hx144_0, hx144_1, hx144_2⟩ := at_T33 HR0_0.out x21_2 p144 q144
           cases e144
           replace hx144_0 := (HB.out.cell (World.block_lt_of_cell? w _ hx144_0)).trans hx144_0
           replace hx144_1 := (HB.out.cell (World.block_lt_of_cell? w _ hx144_1)).trans hx144_1
           replace hx144_2 := (HB.out.cell (World.block_lt_of_cell? w _ hx144_2)).trans hx144_2
           replace p144 := eq_true p144
           replace q144 := eq_true q144
           go_wp2_with (first | ((with_reducible refine gate_dst (N := 4) rfl ?_); (try (refine gate_guard (by rfl) ?_; dsimp only)); refine box_event ?hg (N := 4) ?hd (cs := #[.int .i64 0, .int .i64 0, .bool false]) (t := 33) ?hr ?_; (case hd => rfl); (case hg => rfl); (case hr => first | (go_simp; done) | (go_simp; rfl)); intro gb145 hg w19 hbox hb; have n0_ := aM (blk_below (g := gb143) (o := .cells #[.slice (some ad144) l0_0.length c0_0, .slice A0_1 l0_1.length c0_1] 25 (0, 0)) (by (with_reducible repeat (first | refine kN ?_ _ | refine kD ?_ | refine kA ?_ _)); exact BK143.out) hb); have n1_ := aM (below_step (by repeat (first | (with_reducible first | exact HB.out | apply bA | apply bN | apply bD | refine bS ?_ GE143.out) | exact HB.out)) hb); have n2_ := aM (hbox); have n3_ := aM ((by rw [hg]; exact (below_size (by repeat (first | (with_reducible first | exact HB.out | apply bA | apply bN | apply bD | refine bS ?_ GE143.out) | exact HB.out))) : w.heap.size ≤ gb145)); have n4_ := aM ((by rw [hg]; exact (below_size (by repeat (first | (with_reducible first | exact HB.out | apply bA | apply bN | apply bD | refine bS ?_ GE143.out) | exact HB.out))) : w.heap.size ≤ gb145)); have n5_ := aM ((by rw [hg]; exact Nat.ne_of_lt (blk_lt (g := gb143) (o := .cells #[.slice (some ad144) l0_0.length c0_0, .slice A0_1 l0_1.length c0_1] 25 (0, 0)) (by (with_reducible repeat (first | refine kN ?_ _ | refine kD ?_ | refine kA ?_ _)); exact BK143.out)) : gb143 ≠ gb145)); have n6_ := aM ((by rw [hg]; exact Nat.ne_of_gt (blk_lt (g := gb143) (o := .cells #[.slice (some ad144) l0_0.length c0_0, .slice A0_1 l0_1.length c0_1] 25 (0, 0)) (by (with_reducible repeat (first | refine kN ?_ _ | refine kD ?_ | refine kA ?_ _)); exact BK143.out)) : gb145 ≠ gb143)); clear BK143; clear HB; have BK143 := n0_; have HB := n1_; have BK145 := n2_; have GW145 := n3_; have GE145 := n4_; have NB143_145 := n5_; have NB145_143 := n6_; clear n0_ n1_ n2_ n3_ n4_ n5_ n6_; clear hb hbox hg; have hnb20 := NB145_143.out; have hnc20 := NB143_145.out; have hcz21_0 : w19.cell? ⟨gb145, 0, none⟩ = some (.int .i64 0) := (blk_cell BK145.out 0).trans rfl; have hcz21_1 : w19.cell? ⟨gb145, 1, none⟩ = some (.int .i64 0) := (blk_cell BK145.out 1).trans rfl; have hcz21_2 : w19.cell? ⟨gb145, 2, none⟩ = some (.bool false) := (blk_cell BK145.out 2).trans rfl; have hfz21_0 := blk_frozen BK145.out 0; have hfz21_1 := blk_frozen BK145.out 1; have hfz21_2 := blk_frozen BK145.out 2))
           go_ret
           exact ⟨by first | rfl | (simp [errW_none, errW_some] <;> rfl) | (simp only [← hji12, ← hji17]; first | rfl | (simp [errW_none, errW_some] <;> rfl)) | (simp [*, errW_none, errW_some] <;> rfl), by repeat (first | (with_reducible first | exact HB.out | apply bA | apply bN | apply bD | refine bS ?_ GE143.out | refine bS ?_ GE145.out) | exact HB.out)⟩
          ·
           rw [if_neg c18] at H
           have c18b0 : decide ((ji17) < (-16384)) = false := decide_eq_false c18
           clear c18
           have H' := aM H
           clear H
           have p144 : 0 ≤ (x21_2 : Int) := of_decide_eq_true (by assumption)
           have q144 : x21_2 < (l0_0.length : Int) := of_decide_eq_true (by assumption)
           obtain ⟨ad144, e144, hx144_0, hx144_1, hx144_2⟩ := at_T33 HR0_0.out x21_2 p144 q144
           cases e144
           replace hx144_0 := (HB.out.cell (World.block_lt_of_cell? w _ hx144_0)).trans hx144_0
           replace hx144_1 := (HB.out.cell (World.block_lt_of_cell? w _ hx144_1)).trans hx144_1
           replace hx144_2 := (HB.out.cell (World.block_lt_of_cell? w _ hx144_2)).trans hx144_2
           replace p144 := eq_true p144
           replace q144 := eq_true q144
           go_wp2_with (first | ((with_reducible refine gate_dst (N := 4) rfl ?_); (try (refine gate_guard (by rfl) ?_; dsimp only)); refine box_event ?hg (N := 4) ?hd (cs := #[.int .i64 0, .int .i64 0, .bool false]) (t := 33) ?hr ?_; (case hd => rfl); (case hg => rfl); (case hr => first | (go_simp; done) | (go_simp; rfl)); intro gb145 hg w22 hbox hb; have n0_ := aM (blk_below (g := gb143) (o := .cells #[.slice (some ad144) l0_0.length c0_0, .slice A0_1 l0_1.length c0_1] 25 (0, 0)) (by (with_reducible repeat (first | refine kN ?_ _ | refine kD ?_ | refine kA ?_ _)); exact BK143.out) hb); have n1_ := aM (below_step (by repeat (first | (with_reducible first | exact HB.out | apply bA | apply bN | apply bD | refine bS ?_ GE143.out) | exact HB.out)) hb); have n2_ := aM (hbox); have n3_ := aM ((by rw [hg]; exact (below_size (by repeat (first | (with_reducible first | exact HB.out | apply bA | apply bN | apply bD | refine bS ?_ GE143.out) | exact HB.out))) : w.heap.size ≤ gb145)); have n4_ := aM ((by rw [hg]; exact (below_size (by repeat (first | (with_reducible first | exact HB.out | apply bA | apply bN | apply bD | refine bS ?_ GE143.out) | exact HB.out))) : w.heap.size ≤ gb145)); have n5_ := aM ((by rw [hg]; exact Nat.ne_of_lt (blk_lt (g := gb143) (o := .cells #[.slice (some ad144) l0_0.length c0_0, .slice A0_1 l0_1.length c0_1] 25 (0, 0)) (by (with_reducible repeat (first | refine kN ?_ _ | refine kD ?_ | refine kA ?_ _)); exact BK143.out)) : gb143 ≠ gb145)); have n6_ := aM ((by rw [hg]; exact Nat.ne_of_gt (blk_lt (g := gb143) (o := .cells #[.slice (some ad144) l0_0.length c0_0, .slice A0_1 l0_1.length c0_1] 25 (0, 0)) (by (with_reducible repeat (first | refine kN ?_ _ | refine kD ?_ | refine kA ?_ _)); exact BK143.out)) : gb145 ≠ gb143)); clear BK143; clear HB; have BK143 := n0_; have HB := n1_; have BK145 := n2_; have GW145 := n3_; have GE145 := n4_; have NB143_145 := n5_; have NB145_143 := n6_; clear n0_ n1_ n2_ n3_ n4_ n5_ n6_; clear hb hbox hg; have hnb23 := NB145_143.out; have hnc23 := NB143_145.out; have hcz24_0 : w22.cell? ⟨gb145, 0, none⟩ = some (.int .i64 0) := (blk_cell BK145.out 0).trans rfl; have hcz24_1 : w22.cell? ⟨gb145, 1, none⟩ = some (.int .i64 0) := (blk_cell BK145.out 1).trans rfl; have hcz24_2 : w22.cell? ⟨gb145, 2, none⟩ = some (.bool false) := (blk_cell BK145.out 2).trans rfl; have hfz24_0 := blk_frozen BK145.out 0; have hfz24_1 := blk_frozen BK145.out 1; have hfz24_2 := blk_frozen BK145.out 2))
           go_roundg k2
           case measure => have := HJ1.out; have := HK2.out; omega
           case rel => exact ⟨(wrap64 (x21_2 + 1)), (by first | rfl | (simp; done) | (simp [*]; done)), H', ⟨by have := HJ1.out; have := HK2.out; omega⟩, ⟨by (with_reducible repeat (first | refine kN ?_ _ | refine kD ?_ | refine kA ?_ _)); refine blk_far ?_ NB143_145.out _; (with_reducible repeat (first | refine kN ?_ _ | refine kD ?_ | refine kA ?_ _)); refine blk_far ?_ NB143_145.out _; (with_reducible repeat (first | refine kN ?_ _ | refine kD ?_ | refine kA ?_ _)); refine blk_far ?_ NB143_145.out _; (with_reducible repeat (first | refine kN ?_ _ | refine kD ?_ | refine kA ?_ _)); exact BK143.out⟩, ⟨by repeat (first | (with_reducible first | exact HB.out | apply bA | apply bN | apply bD | refine bS ?_ GE143.out | refine bS ?_ GE145.out) | exact HB.out)⟩⟩
        ·
         rw [if_neg c11] at H
         exact absurd H (by simp)
       ·
        rw [if_neg c10] at H
        exact absurd H (by simp)
      ·
       rw [if_neg c9] at H
       have c9b0 : decide (x21_2 < (l0_0.length : Int)) = false := decide_eq_false c9
       clear c9
       have H' := aM H
       clear H
       have hcz25_0 : wr.cell? ⟨gb143, 0, none⟩ = some (.slice A0_0 l0_0.length c0_0) := (blk_cell BK143.out 0).trans rfl
       have hcz25_1 : wr.cell? ⟨gb143, 1, none⟩ = some (.slice A0_1 l0_1.length c0_1) := (blk_cell BK143.out 1).trans rfl
       have hfz25_0 := blk_frozen BK143.out 0
       have hfz25_1 := blk_frozen BK143.out 1
       go_wp2
       go_loopg [5, 43] k2 (fun kq v5 v43 w' => ∃ (x5_3 : Int) (x43_3 : Int), v5 = .int .i64 x5_3 ∧ v43 = .int .i64 x43_3 ∧ Aside0 (outline_Right.l1 kq x5_3 l0_1 (l0_1.length : Int) x43_3 l0_0 l0_1 = some r) ∧ Aside0 (kq ≤ k2) ∧ Aside0 (w'.heap[gb143]? = some (.cells #[(.slice A0_0 l0_0.length c0_0), (.slice A0_1 l0_1.length c0_1)] 25 (0, 0))) ∧ Aside0 (Below w.heap.size w w'))
       case atStart => exact ⟨((-1)), (0), (by first | rfl | (simp; done) | (simp [*]; done)), (by first | rfl | (simp; done) | (simp [*]; done)), H', ⟨Nat.le_refl _⟩, ⟨by (with_reducible repeat (first | refine kN ?_ _ | refine kD ?_ | refine kA ?_ _)); exact BK143.out⟩, ⟨by repeat (first | (with_reducible first | exact HB.out | apply bA | apply bN | apply bD | refine bS ?_ GE143.out) | exact HB.out)⟩⟩
       case round =>
        clear H'
        try clear c1
        try clear p1
        try clear q1
        try clear hx1
        try clear c2
        try clear p2
        try clear c4
        try clear c4b0
        try clear c4b1
        try clear p6
        try clear c7
        try clear c9
        try clear c9b0
        try clear c10
        try clear c10b0
        try clear c11
        try clear c11b0
        try clear c13
        try clear c13b0
        try clear p14
        try clear q14
        try clear hx14
        try clear c15
        try clear c18
        try clear c18b0
        try clear c20
        try clear c22
        try clear c23
        try clear hcz16_0
        try clear hcz16_1
        try clear hcz16_2
        try clear hcz21_0
        try clear hcz21_1
        try clear hcz21_2
        try clear hcz24_0
        try clear hcz24_1
        try clear hcz24_2
        try clear hcz25_0
        try clear hcz25_1
        try clear hcz5_0
        try clear hcz5_1
        try clear hcz6_0
        try clear hcz6_1
        try clear hcz8_0
        try clear hcz8_1
        try clear hfz16_0
        try clear hfz16_1
        try clear hfz16_2
        try clear hfz21_0
        try clear hfz21_1
        try clear hfz21_2
        try clear hfz24_0
        try clear hfz24_1
        try clear hfz24_2
        try clear hfz25_0
        try clear hfz25_1
        try clear hfz5_0
        try clear hfz5_1
        try clear hfz6_0
        try clear hfz6_1
        try clear hfz8_0
        try clear hfz8_1
        try clear hx144_0
        try clear hx144_1
        try clear hx144_2
        try clear p144
        try clear p2
        try clear q144
        obtain ⟨x5_3, x43_3, rfl, rfl, HA, HK3, BK143, HB⟩ := hrel
        cases gk with
        | zero => exact absurd HA.out (by simp [outline_Right.l1])
        | succ k3 =>
         have H := HA.out
         clear HA
         simp only [outline_Right.l1] at H
         by_cases c26 : x43_3 < (l0_1.length : Int)
         ·
          rw [if_pos c26] at H
          have c26b0 : decide (x43_3 < (l0_1.length : Int)) = true := decide_eq_true c26
          clear c26
          by_cases c27 : 0 ≤ x43_3
          ·
           rw [if_pos c27] at H
           have c27b0 : decide (0 ≤ x43_3) = true := decide_eq_true c27
           clear c27
           by_cases c28 : x43_3 < (l0_1.length : Int)
           ·
            rw [if_pos c28] at H
            have c28b0 : decide (x43_3 < (l0_1.length : Int)) = true := decide_eq_true c28
            clear c28
            by_cases c29 : (rd l0_1 x43_3) < (wrap64 (x5_3 + 2))
            ·
             rw [if_pos c29] at H
             have c29b0 : decide ((rd l0_1 x43_3) < (wrap64 (x5_3 + 2))) = true := decide_eq_true c29
             clear c29
             obtain rfl := Option.some.inj H
             have p146 : 0 ≤ (x43_3 : Int) := of_decide_eq_true (by assumption)
             have q146 : x43_3 < (l0_1.length : Int) := of_decide_eq_true (by assumption)
             obtain ⟨ad146, e146, hx146_0⟩ := Kd.at_int HR0_1.out x43_3 p146 q146
             cases e146
             replace hx146_0 := (HB.out.cell (World.block_lt_of_cell? w _ hx146_0)).trans hx146_0
             replace p146 := eq_true p146
             replace q146 := eq_true q146
             go_wp2
             go_ret
             exact ⟨by first | rfl | (simp [errW_none, errW_some] <;> rfl) | (simp [*, errW_none, errW_some] <;> rfl), by repeat (first | (with_reducible first | exact HB.out | apply bA | apply bN | apply bD | refine bS ?_ GE143.out) | exact HB.out)⟩
            ·
             rw [if_neg c29] at H
             have c29b0 : decide ((rd l0_1 x43_3) < (wrap64 (x5_3 + 2))) = false := decide_eq_false c29
             clear c29
             by_cases c30 : (rd l0_1 x43_3) ≥ (l0_0.length : Int)
             ·
              rw [if_pos c30] at H
              have c30b0 : decide ((l0_0.length : Int) ≤ (rd l0_1 x43_3)) = true := decide_eq_true c30
              clear c30
              obtain rfl := Option.some.inj H
              have p146 : 0 ≤ (x43_3 : Int) := of_decide_eq_true (by assumption)
              have q146 : x43_3 < (l0_1.length : Int) := of_decide_eq_true (by assumption)
              obtain ⟨ad146, e146, hx146_0⟩ := Kd.at_int HR0_1.out x43_3 p146 q146
              cases e146
              replace hx146_0 := (HB.out.cell (World.block_lt_of_cell? w _ hx146_0)).trans hx146_0
              replace p146 := eq_true p146
              replace q146 := eq_true q146
              have hcz31_0 : wr.cell? ⟨gb143, 0, none⟩ = some (.slice A0_0 l0_0.length c0_0) := (blk_cell BK143.out 0).trans rfl
              have hcz31_1 : wr.cell? ⟨gb143, 1, none⟩ = some (.slice (some ad146) l0_1.length c0_1) := (blk_cell BK143.out 1).trans rfl
              have hfz31_0 := blk_frozen BK143.out 0
              have hfz31_1 := blk_frozen BK143.out 1
              go_wp2
              go_ret
              exact ⟨by first | rfl | (simp [errW_none, errW_some] <;> rfl) | (simp [*, errW_none, errW_some] <;> rfl), by repeat (first | (with_reducible first | exact HB.out | apply bA | apply bN | apply bD | refine bS ?_ GE143.out) | exact HB.out)⟩
             ·
              rw [if_neg c30] at H
              have c30b0 : decide ((l0_0.length : Int) ≤ (rd l0_1 x43_3)) = false := decide_eq_false c30
              clear c30
              have H' := aM H
              clear H
              have p146 : 0 ≤ (x43_3 : Int) := of_decide_eq_true (by assumption)
              have q146 : x43_3 < (l0_1.length : Int) := of_decide_eq_true (by assumption)
              obtain ⟨ad146, e146, hx146_0⟩ := Kd.at_int HR0_1.out x43_3 p146 q146
              cases e146
              replace hx146_0 := (HB.out.cell (World.block_lt_of_cell? w _ hx146_0)).trans hx146_0
              replace p146 := eq_true p146
              replace q146 := eq_true q146
              have hcz32_0 : wr.cell? ⟨gb143, 0, none⟩ = some (.slice A0_0 l0_0.length c0_0) := (blk_cell BK143.out 0).trans rfl
              have hcz32_1 : wr.cell? ⟨gb143, 1, none⟩ = some (.slice (some ad146) l0_1.length c0_1) := (blk_cell BK143.out 1).trans rfl
              have hfz32_0 := blk_frozen BK143.out 0
              have hfz32_1 := blk_frozen BK143.out 1
              go_wp2
              go_roundg k3
              case measure => have := HJ1.out; have := HK2.out; have := HK3.out; omega
              case rel => exact ⟨(rd l0_1 x43_3), (wrap64 (x43_3 + 1)), (by first | rfl | (simp; done) | (simp [*]; done)), (by first | rfl | (simp; done) | (simp [*]; done)), H', ⟨by have := HJ1.out; have := HK2.out; have := HK3.out; omega⟩, ⟨by (with_reducible repeat (first | refine kN ?_ _ | refine kD ?_ | refine kA ?_ _)); exact BK143.out⟩, ⟨by repeat (first | (with_reducible first | exact HB.out | apply bA | apply bN | apply bD | refine bS ?_ GE143.out) | exact HB.out)⟩⟩
           ·
            rw [if_neg c28] at H
            exact absurd H (by simp)
          ·
           rw [if_neg c27] at H
           exact absurd H (by simp)
         ·
          rw [if_neg c26] at H
          have c26b0 : decide (x43_3 < (l0_1.length : Int)) = false := decide_eq_false c26
          clear c26
          obtain rfl := Option.some.inj H
          have hcz33_0 : wr.cell? ⟨gb143, 0, none⟩ = some (.slice A0_0 l0_0.length c0_0) := (blk_cell BK143.out 0).trans rfl
          have hcz33_1 : wr.cell? ⟨gb143, 1, none⟩ = some (.slice A0_1 l0_1.length c0_1) := (blk_cell BK143.out 1).trans rfl
          have hfz33_0 := blk_frozen BK143.out 0
          have hfz33_1 := blk_frozen BK143.out 1
          go_wp2
          go_ret
          exact ⟨by first | rfl | (simp [errW_none, errW_some] <;> rfl) | (simp [*, errW_none, errW_some] <;> rfl), by repeat (first | (with_reducible first | exact HB.out | apply bA | apply bN | apply bD | refine bS ?_ GE143.out) | exact HB.out)⟩

end Go.Proofs.Ytbmklpcheopgoaa.H

namespace Go.Proofs.Ytbmklpcheopgoaa.H
open Go.RowKit Go.Proofs.YtbmklpcheopgoaaW.PrintWords Go.Proofs.YtbmklpcheopgoaaW.PrintLast Go.Proofs.YtbmklpcheopgoaaW.PrintMore
attribute [local go_sem] max2_int min2_int max_two min_two max_three min_three max_four min_four   -- for this text's walks alone
set_option linter.unusedVariables false
set_option linter.unusedSimpArgs false

/-! ### outline_at: function 56 -/
def outline_at.f (a0 : Int) (a1 : Int) (a2 : Int) (a3 : Int) : Option (Int) := some ((wrap64 ((wrap64 ((wrap64 ((wrap64 ((wrap64 ((wrap64 (8 - a0)) * (wrap64 (8 - a0)))) * a1)) + (wrap64 ((wrap64 ((wrap64 (2 * a0)) * (wrap64 (8 - a0)))) * a2)))) + (wrap64 ((wrap64 (a0 * a0)) * a3)))) + 32)) / 64)
set_option maxHeartbeats 8000000 in
set_option maxRecDepth 100000 in
theorem outline_at.calls (a0 : Int) (a1 : Int) (a2 : Int) (a3 : Int) (r : Int) (w : World) (h : outline_at.f a0 a1 a2 a3 = some r) :
  Calls Try.prog 56 #[.int .i64 a0, .int .i64 a1, .int .i64 a2, .int .i64 a3] w fun e w' => e = .returned (.int .i64 r) ∧ Drawn0 w w' := by
 have H : (some ((wrap64 ((wrap64 ((wrap64 ((wrap64 ((wrap64 ((wrap64 (8 - a0)) * (wrap64 (8 - a0)))) * a1)) + (wrap64 ((wrap64 ((wrap64 (2 * a0)) * (wrap64 (8 - a0)))) * a2)))) + (wrap64 ((wrap64 (a0 * a0)) * a3)))) + 32)) / 64)) = some r := h
 clear h
 obtain rfl := Option.some.inj H
 go_enter Try.func56, Try.ntmps56
 go_wp2
 go_ret
 exact ⟨by first | rfl | (simp; done) | (simp [*]; done), by repeat (first | exact Drawn0.refl _ | apply Drawn0.step)⟩

end Go.Proofs.Ytbmklpcheopgoaa.H

namespace Go.Proofs.YtbmklpcheopgoaaCallOps
open Go Go.RowKit Go.Proofs.YtbmklpcheopgoaaIt Go.Proofs.YtbmklpcheopgoaaW.PrintWords Go.Proofs.YtbmklpcheopgoaaW.PrintLast

theorem op_call {P : Program} {o : Oper} {a : Act} {w : World} {K : Act → World → Prop} {Q : Exit → Act → World → Prop} {f : FuncId} {fn : Func} {avs : Array Operand} {ts : Array TypeId} (hf : P.funcs[f]? = some fn) (hname : (fn.name == "runtime.NumGoroutine") = false) (hb : fn.body.isSome = true) (args : Array Value)
    (hop : o.op = .call { callee := .value (.func f), args := avs, argTypes := ts }) (hargs : avs.map a.eval = args)
    (h : Calls P f args w fun e w' => ∃ v, e = .returned v ∧ K (a.put o.dst v) w') : Oper.wp P o a w K Q := by
  have he := enters_ hf hname hb args w
  have hrun : (execOp a.eval o).run P w = .ok (.enter f args) w := by
    unfold execOp
    simp [hop, resolve, Deferred.ofValue, invoke, Act.eval, hargs, he]
  unfold Oper.wp
  rw [hrun, Oper.upon_enter]
  refine h.mono fun e w'' hh => ?_
  obtain ⟨v, rfl, hk⟩ := hh
  exact hk

theorem op_callIn {F : Fence} {n : Nat} {P : Program} {o : Oper} {a : Act} {w : World} {K : Act → World → Prop} {Q : Exit → Act → World → Prop} {f : FuncId} {fn : Func} {avs : Array Operand} {ts : Array TypeId} (hf : P.funcs[f]? = some fn) (hname : (fn.name == "runtime.NumGoroutine") = false) (hb : fn.body.isSome = true) (args : Array Value)
    (hop : o.op = .call { callee := .value (.func f), args := avs, argTypes := ts }) (hargs : avs.map a.eval = args) (hF : F.depth = none) (hfn : ∀ f, F.fn f)
    (h : CallsIn F (n - 1) P f args w fun e w' => ∃ v, e = .returned v ∧ K (a.put o.dst v) w') : Oper.wpIn F n P o a w K Q := by
  have he := enters_ hf hname hb args w
  have hrun : (execOp a.eval o).run P w = .ok (.enter f args) w := by
    unfold execOp
    simp [hop, resolve, Deferred.ofValue, invoke, Act.eval, hargs, he]
  unfold Oper.wpIn
  refine ⟨fun f _ => hfn f, ?_⟩
  rw [Oper.semAt_plain F _ _ (by rw [hop]; intro c hc'; cases hc'), hrun]
  refine ⟨fun hh => (by rw [hF] at hh; cases hh), CallsIn.mono h fun e w'' hh => ?_⟩
  obtain ⟨v, rfl, hk⟩ := hh
  exact hk
end Go.Proofs.YtbmklpcheopgoaaCallOps

namespace Go.Proofs.Ytbmklpcheopgoaa.H
open Go.RowKit Go.Proofs.YtbmklpcheopgoaaW.PrintWords Go.Proofs.YtbmklpcheopgoaaW.PrintLast Go.Proofs.YtbmklpcheopgoaaW.PrintMore
attribute [local go_sem] max2_int min2_int max_two min_two max_three min_three max_four min_four   -- for this text's walks alone
set_option linter.unusedVariables false
set_option linter.unusedSimpArgs false

/-! ### outline_row: function 48 -/
open Go.Proofs.YtbmklpcheopgoaaOps Go.Proofs.YtbmklpcheopgoaaIt Go.Proofs.YtbmklpcheopgoaaBlks Go.Proofs.YtbmklpcheopgoaaFlat Go.Proofs.YtbmklpcheopgoaaCallOps
attribute [local go_sem] World.cell?_alloc_some
theorem flat_pt2 : Flat k52 := fun _ _ _ _ _ _ _ _ h => by rw [k52_openM h]; exact k52_mkM _ _ _ _
theorem info_pt2 : (Try.prog.info? 52).map (fun i => (i.zero, i.size, i.bytes)) = some (some (.agg #[.int .i64 0, .int .i64 0]), Kd.sz k52, 16) := by kernel_rfl
def atV (n a c b : Int) : Int := (outline_at.f n a c b).getD 0
theorem atV_f (n a c b : Int) : outline_at.f n a c b = some (atV n a c b) := rfl
/-- The j-th point of the curve that begins at place i. -/
def curveAt (l : List S101) (i : Nat) (j : Nat) : S52 :=
 let a := rd_T101 l (i : Nat); let c := rd_T101 l ((i + 1) % l.length : Nat); let b := rd_T101 l ((i + 2) % l.length : Nat)
 ⟨atV j a.f0.f0 c.f0.f0 b.f0.f0, atV j a.f0.f1 c.f0.f1 b.f0.f1⟩
def curveK (l : List S101) (i m : Nat) : List S52 := (List.range m).map fun j => curveAt l i (1 + j)
def rowGo (l : List S101) : Nat → Nat → List S52 → List S52
 | 0, _, out => out
 | f + 1, i, out => if i < l.length then (if (rd_T101 l ((i + 1) % l.length : Nat)).f1 = true then rowGo l f (i + 1) (out ++ [(rd_T101 l ((i + 1) % l.length : Nat)).f0]) else rowGo l f (i + 2) (out ++ curveK l i 8)) else out
def rowAll (l : List S101) : List S52 := rowGo l l.length 0 [(rd_T101 l (0 : Nat)).f0]
def rowL (l : List S101) : List S52 := (rowAll l).take ((rowAll l).length - 1)
theorem rowGo_more (l : List S101) : ∀ (f i : Nat) (out : List S52), l.length ≤ i + f → rowGo l (f + 1) i out = rowGo l f i out := by
 intro f
 induction f with
 | zero => intro i out h; unfold rowGo; rw [if_neg (by omega)]
 | succ f ih =>
  intro i out h
  by_cases hi : i < l.length
  ·
   rw [show rowGo l (f + 1 + 1) i out = _ from by unfold rowGo; exact if_pos hi, show rowGo l (f + 1) i out = _ from by unfold rowGo; exact if_pos hi]
   rw [ih _ _ (by omega), ih _ _ (by omega)]
  ·
   rw [show rowGo l (f + 1 + 1) i out = _ from by unfold rowGo; exact if_neg hi, show rowGo l (f + 1) i out = _ from by unfold rowGo; exact if_neg hi]
theorem rowGo_on (l : List S101) (i : Nat) (out : List S52) (hi : i < l.length) (hc : (rd_T101 l ((i + 1) % l.length : Nat)).f1 = true) : rowGo l (l.length - i) i out = rowGo l (l.length - (i + 1)) (i + 1) (out ++ [(rd_T101 l ((i + 1) % l.length : Nat)).f0]) := by
 obtain ⟨m, hm⟩ : ∃ m, l.length - i = m + 1 := ⟨l.length - i - 1, by omega⟩
 rw [hm, show l.length - (i + 1) = m by omega]
 rw [show rowGo l (m + 1) i out = _ from by unfold rowGo; exact if_pos hi, if_pos hc]
theorem rowGo_off (l : List S101) (i : Nat) (out : List S52) (hi : i < l.length) (hc : (rd_T101 l ((i + 1) % l.length : Nat)).f1 = false) : rowGo l (l.length - i) i out = rowGo l (l.length - (i + 2)) (i + 2) (out ++ curveK l i 8) := by
 obtain ⟨m, hm⟩ : ∃ m, l.length - i = m + 1 := ⟨l.length - i - 1, by omega⟩
 rw [hm, show rowGo l (m + 1) i out = _ from by unfold rowGo; exact if_pos hi, if_neg (by rw [hc]; decide)]
 cases m with
 | zero => rw [show l.length - (i + 2) = 0 by omega]
 | succ m => rw [show l.length - (i + 2) = m by omega]; exact rowGo_more l m (i + 2) _ (by omega)
theorem curveK_succ (l : List S101) (i m : Nat) : curveK l i (m + 1) = curveK l i m ++ [curveAt l i (1 + m)] := by simp [curveK, List.range_succ]
theorem curveK_len (l : List S101) (i m : Nat) : (curveK l i m).length = m := by simp [curveK]

theorem row_apart {α : Type} {d : Kd α} {H : List (Nat × Obj)} {W : World} {base : Nat} {ok : Nat → Prop} {v : Value} {xs : List α} (hB : Blks H W) (hH : ∀ p ∈ H, ∃ cs, p.2 = .cells cs 101 (0, 0)) (hO : d.R 52 W base ok v xs) : ∀ b ∈ H.map Prod.fst, v.ownBlock = some b → False := by
 intro b hb e
 obtain ⟨p, hp, rfl⟩ := List.mem_map.1 hb
 obtain ⟨cs, hc⟩ := hH p hp
 have h1 := hB.at_ p hp
 obtain ⟨_, inner, ho, _⟩ := hO
 obtain ⟨cells, h2⟩ := own_typed ho _ e
 rw [h1, hc] at h2
 injection h2 with h2
 injection h2 with _ h2
 cases h2

structure RowReg5 where
 mk ::
 b0 : Bool
 b1 : Bool
 b2 : Bool
 b3 : Bool
 b4 : Bool
 b5 : Bool
 b6 : Bool
 b7 : Bool
 b8 : Bool
 b9 : Bool
 b10 : Bool
 b11 : Bool
 b12 : Bool
 b13 : Bool
 b14 : Bool
 b15 : Bool
 b16 : Bool
 b17 : Bool
 b18 : Bool
 b19 : Bool
 b20 : Bool
 b21 : Bool
 b22 : Bool
 b23 : Bool
 b24 : Bool
 b25 : Bool
 gA : Nat
 gC : Nat
 gB : Nat
structure RowReg11 where
 mk ::
 b0 : Bool
 b1 : Bool
 b2 : Bool
 b3 : Bool
 b4 : Bool
 b5 : Bool
 b6 : Bool
 b7 : Bool
 b8 : Bool
 b9 : Bool
 b10 : Bool
 b11 : Bool
 b12 : Bool
 b13 : Bool
 b14 : Bool
 b15 : Bool
 b16 : Bool
 b17 : Bool
 b18 : Bool
 b19 : Bool
 b20 : Bool
 b21 : Bool
 b22 : Bool
 b23 : Bool
 b24 : Bool
 b25 : Bool
 b26 : Bool
 gH : Nat
 V1 : Value
set_option maxRecDepth 100000 in
set_option maxHeartbeats 4000000 in
theorem row_calls (A0 : Option Addr) (c0 : Nat) (l : List S101) (w : World) (hr : Kd.C k101 w A0 l.length l) (hc0 : l.length ≤ c0) (hpos : 0 < l.length) (hlim : l.length ≤ 3000000) :
  Calls Try.prog 48 #[.slice A0 l.length c0] w fun e w' => ∃ v : Value, e = .returned v ∧ Kd.R k52 52 w' w.heap.size (fun _ => True) v (rowL l) ∧ Below w.heap.size w w' := by
 have hu := Try.underlying52
 have hu2 := Try.underlying101
 have hu3 := Try.underlying83
 obtain ⟨ad, rfl, x0, x1, x2⟩ := at_T101 hr 0 (by omega) (by omega)
 have e0 : ad.add 0 = ad := by unfold Addr.add; split <;> simp_all
 simp only [Int.toNat_zero, Nat.zero_mul, e0] at x0 x1 x2
 clear e0
 have HR := aM hr
 clear hr
 go_enter Try.func48, Try.ntmps48
 go_wp2
 have hS0 : Kd.R k52 52 (w.alloc (.cells #[.int .i64 (rd_T101 l 0).f0.f0, .int .i64 (rd_T101 l 0).f0.f1] 52)) w.heap.size (Own1 (.slice (some ⟨w.heap.size, 0, none⟩) 1 1)) (.slice (some ⟨w.heap.size, 0, none⟩) 1 1) [(rd_T101 l 0).f0] := by
  refine ⟨fun k hk => hk.symm, [.int .i64 (rd_T101 l 0).f0.f0, .int .i64 (rd_T101 l 0).f0.f1], ⟨by simp; rfl, .inr ⟨w.heap.size, 1, _, rfl, Nat.le_refl _, World.alloc_heap_new w _, Nat.le_refl _, by simp [maxLen], by rfl, by rfl⟩⟩, ?_⟩
  exact Reps.snoc (ps := []) (cs := []) (Reps.none _ _) (k52_mkM _ _ _ _) rfl
 go_loopw [3, 4] (fun v3 v4 wr => ∃ (i : Nat) (out : List S52), i ≤ l.length + 1 ∧ v4 = .int .i64 i ∧ 1 ≤ out.length ∧ out.length ≤ 1 + 8 * i ∧ Aside0 (rowGo l (l.length - i) i out = rowAll l ∧ Kd.R k52 52 wr w.heap.size (Own1 v3) v3 out ∧ Below w.heap.size w wr))
  (fun _ v4 _ => l.length + 2 - (intOf v4).toNat)
 case atStart => exact ⟨0, _, by omega, rfl, by simp, by simp, ⟨rfl, hS0, (Below.refl _ _).alloc (Nat.le_refl _) _⟩⟩
 case round =>
  obtain ⟨i, out, hi, rfl, hol1, hol, ⟨HG, HO, HB⟩⟩ := hrel
  by_cases hlt : i < l.length
  ·
   obtain ⟨Ao, co, hv3⟩ := Kd.R_slice HO
   subst hv3
   have hOlt : ∀ k, (Value.slice Ao out.length co).ownBlock = some k → k < wr.heap.size := fun k hk => by obtain ⟨_, inner, ho, _⟩ := HO; exact own_lt ho k hk
   obtain ⟨j1, hj1⟩ : ∃ j1, (i + 1) % l.length = j1 := ⟨_, rfl⟩
   obtain ⟨j2, hj2⟩ : ∃ j2, (i + 2) % l.length = j2 := ⟨_, rfl⟩
   have hlj1 : j1 < l.length := by rw [← hj1]; exact Nat.mod_lt _ hpos
   have hlj2 : j2 < l.length := by rw [← hj2]; exact Nat.mod_lt _ hpos
   have hli : i < l.length := hlt
   have hw1 : wrap64 ((i : Int) + 1) = (i : Int) + 1 := by unfold wrap64; omega
   have hw2 : wrap64 ((i : Int) + 2) = (i : Int) + 2 := by unfold wrap64; omega
   have hw1' : IntKind.i64.wrap ((i : Int) + 1) = (i : Int) + 1 := (Go.Proofs.YtbmklpcheopgoaaW.PrintLast.i64_w _).trans hw1
   have hw2' : IntKind.i64.wrap ((i : Int) + 2) = (i : Int) + 2 := (Go.Proofs.YtbmklpcheopgoaaW.PrintLast.i64_w _).trans hw2
   have hn0 : ¬ ((l.length : Int) = 0) := by omega
   have hne : ¬ l = [] := fun h => by rw [h] at hpos; simp at hpos
   have hm1' : ((i : Int) + 1) % (l.length : Int) = (j1 : Int) := by rw [← hj1]; simp
   have hm2' : ((i : Int) + 2) % (l.length : Int) = (j2 : Int) := by rw [← hj2]; simp
   have hm1 : Int.tmod ((i : Int) + 1) (l.length : Int) = (j1 : Int) := by rw [Int.tmod_eq_emod_of_nonneg (by omega)]; exact hm1'
   have hm2 : Int.tmod ((i : Int) + 2) (l.length : Int) = (j2 : Int) := by rw [Int.tmod_eq_emod_of_nonneg (by omega)]; exact hm2'
   obtain ⟨_, e1, a0, a1, a2⟩ := at_T101 HR.out ((i : Nat) : Int) (by omega) (by omega)
   cases e1
   obtain ⟨_, e1, c0_, c1_, c2_⟩ := at_T101 HR.out ((j1 : Nat) : Int) (by omega) (by omega)
   cases e1
   obtain ⟨_, e1, b0_, b1_, b2_⟩ := at_T101 HR.out ((j2 : Nat) : Int) (by omega) (by omega)
   cases e1
   simp only [Int.toNat_natCast] at a0 a1 a2 c0_ c1_ c2_ b0_ b1_ b2_
   have fa0 := (HB.cell (World.block_lt_of_cell? w _ a0)).trans a0
   have fa1 := (HB.cell (World.block_lt_of_cell? w _ a1)).trans a1
   have fa2 := (HB.cell (World.block_lt_of_cell? w _ a2)).trans a2
   have fc0 := (HB.cell (World.block_lt_of_cell? w _ c0_)).trans c0_
   have fc1 := (HB.cell (World.block_lt_of_cell? w _ c1_)).trans c1_
   have fc2 := (HB.cell (World.block_lt_of_cell? w _ c2_)).trans c2_
   have fb0 := (HB.cell (World.block_lt_of_cell? w _ b0_)).trans b0_
   have fb1 := (HB.cell (World.block_lt_of_cell? w _ b1_)).trans b1_
   have fb2 := (HB.cell (World.block_lt_of_cell? w _ b2_)).trans b2_
   have HB_ := Lib.hid HB
   clear HB
   clear c0_ c1_ c2_ b0_ b1_ b2_ x0 x1 x2 a0 a1 a2
   go_wp2_with fail
   refine Go.Proofs.YtbmklpcheopgoaaReg.reg_inv (by rfl) [0, 1, 2, 3, 4, 5, 6, 7, 8, 9, 10, 11, 12, 13, 14, 15, 16, 17, 18, 19, 20, 21, 22, 23, 24, 25] (by kernel_rfl) (by kernel_rfl)
    (fun lst a W' => ∃ d : RowReg5, lst = #[d.b0, d.b1, d.b2, d.b3, d.b4, d.b5, d.b6, d.b7, d.b8, d.b9, d.b10, d.b11, d.b12, d.b13, d.b14, d.b15, d.b16, d.b17, d.b18, d.b19, d.b20, d.b21, d.b22, d.b23, d.b24, d.b25] ∧ a = ⟨#[.slice (some ad) l.length c0, undef, .slice none 0 0, .slice Ao out.length co, .int .i64 i, (cond d.b20 (.pointer (some ⟨d.gA, 0, none⟩)) u5), (cond d.b21 (.pointer (some ⟨d.gC, 0, none⟩)) u6), (cond d.b22 (.pointer (some ⟨d.gB, 0, none⟩)) u7), u8, .slice (some ad) l.length c0, .pointer (some ad), .pointer (some ad), .agg #[.int .i64 (rd_T101 l 0).f0.f0, .int .i64 (rd_T101 l 0).f0.f1], .slice (some ⟨w.heap.size, 0, none⟩) 1 1, .int .i64 i, .slice (some ad) l.length c0, .int .i64 l.length, .bool true, u18, u19, (cond d.b0 (.slice (some ad) l.length c0) u20), (cond d.b1 (.int .i64 i) u21), (cond d.b2 (.pointer (some (ad.add (i * 3)))) u22), (cond d.b3 (.agg #[.int .i64 (rd_T101 l ((i : Nat) : Int)).f0.f0, .int .i64 (rd_T101 l ((i : Nat) : Int)).f0.f1, .bool (rd_T101 l ((i : Nat) : Int)).f1]) u23), (cond d.b4 (.slice (some ad) l.length c0) u24), (cond d.b5 (.int .i64 i) u25), (cond d.b6 (.int .i64 ((i : Int) + 1)) u26), (cond d.b7 (.slice (some ad) l.length c0) u27), (cond d.b8 (.int .i64 l.length) u28), (cond d.b9 (.int .i64 j1) u29), (cond d.b10 (.pointer (some (ad.add (j1 * 3)))) u30), (cond d.b11 (.agg #[.int .i64 (rd_T101 l ((j1 : Nat) : Int)).f0.f0, .int .i64 (rd_T101 l ((j1 : Nat) : Int)).f0.f1, .bool (rd_T101 l ((j1 : Nat) : Int)).f1]) u31), (cond d.b12 (.slice (some ad) l.length c0) u32), (cond d.b13 (.int .i64 i) u33), (cond d.b14 (.int .i64 ((i : Int) + 2)) u34), (cond d.b15 (.slice (some ad) l.length c0) u35), (cond d.b16 (.int .i64 l.length) u36), (cond d.b17 (.int .i64 j2) u37), (cond d.b18 (.pointer (some (ad.add (j2 * 3)))) u38), (cond d.b19 (.agg #[.int .i64 (rd_T101 l ((j2 : Nat) : Int)).f0.f0, .int .i64 (rd_T101 l ((j2 : Nat) : Int)).f0.f1, .bool (rd_T101 l ((j2 : Nat) : Int)).f1]) u39), u40, u41, u42, u43, u44, u45, u46, u47, u48, u49, u50, u51, u52, u53, u54, u55, u56, u57, u58, u59, u60, u61, u62, u63, u64, u65, u66, u67, u68, u69, u70, u71, u72, u73, u74, u75, u76, u77, u78, undef, undef, undef, undef, undef], []⟩ ∧ (d.b23 = true → d.b20 = true) ∧ (d.b23 = true → d.b21 = true) ∧ (d.b23 = true → d.b22 = true) ∧ (d.b24 = true → d.b20 = true) ∧ (d.b24 = true → d.b21 = true) ∧ (d.b24 = true → d.b22 = true) ∧ (d.b25 = true → d.b20 = true) ∧ (d.b25 = true → d.b21 = true) ∧ (d.b25 = true → d.b22 = true) ∧ (d.b20 = true → W'.heap[d.gA]? = some (.cells #[cond d.b23 (.int .i64 (rd_T101 l ((i : Nat) : Int)).f0.f0) (.int .i64 0), cond d.b23 (.int .i64 (rd_T101 l ((i : Nat) : Int)).f0.f1) (.int .i64 0), cond d.b23 (.bool (rd_T101 l ((i : Nat) : Int)).f1) (.bool false)] 101 (0, 0))) ∧ (d.b21 = true → W'.heap[d.gC]? = some (.cells #[cond d.b24 (.int .i64 (rd_T101 l ((j1 : Nat) : Int)).f0.f0) (.int .i64 0), cond d.b24 (.int .i64 (rd_T101 l ((j1 : Nat) : Int)).f0.f1) (.int .i64 0), cond d.b24 (.bool (rd_T101 l ((j1 : Nat) : Int)).f1) (.bool false)] 101 (0, 0))) ∧ (d.b22 = true → W'.heap[d.gB]? = some (.cells #[cond d.b25 (.int .i64 (rd_T101 l ((j2 : Nat) : Int)).f0.f0) (.int .i64 0), cond d.b25 (.int .i64 (rd_T101 l ((j2 : Nat) : Int)).f0.f1) (.int .i64 0), cond d.b25 (.bool (rd_T101 l ((j2 : Nat) : Int)).f1) (.bool false)] 101 (0, 0))) ∧ (d.b20 = true → d.b21 = true → d.gA ≠ d.gC) ∧ (d.b20 = true → d.b22 = true → d.gA ≠ d.gB) ∧ (d.b21 = true → d.b22 = true → d.gC ≠ d.gB) ∧ (d.b20 = true → wr.heap.size ≤ d.gA) ∧ (d.b21 = true → wr.heap.size ≤ d.gC) ∧ (d.b22 = true → wr.heap.size ≤ d.gB) ∧ (Kd.R k52 52 W' w.heap.size (Own1 (.slice Ao out.length co)) (.slice Ao out.length co) out) ∧ (Below wr.heap.size wr W')) ?_ ?_ ?_ ?_
   ·
    rintro lst a W' ⟨d, rfl, _⟩
    rfl
   ·
    exact ⟨⟨false, false, false, false, false, false, false, false, false, false, false, false, false, false, false, false, false, false, false, false, false, false, false, false, false, false, 0, 0, 0⟩, rfl, rfl, (fun h => Bool.noConfusion h), (fun h => Bool.noConfusion h), (fun h => Bool.noConfusion h), (fun h => Bool.noConfusion h), (fun h => Bool.noConfusion h), (fun h => Bool.noConfusion h), (fun h => Bool.noConfusion h), (fun h => Bool.noConfusion h), (fun h => Bool.noConfusion h), (fun h => Bool.noConfusion h), (fun h => Bool.noConfusion h), (fun h => Bool.noConfusion h), (fun h => Bool.noConfusion h), (fun h => Bool.noConfusion h), (fun h => Bool.noConfusion h), (fun h => Bool.noConfusion h), (fun h => Bool.noConfusion h), (fun h => Bool.noConfusion h), (R_chg HO ((Chg.refl (fun _ => False) _).drew) (fun _ _ => id)), (below_drew (Below.refl _ _))⟩
   ·
    rintro lst a W' i o ⟨⟨b0, b1, b2, b3, b4, b5, b6, b7, b8, b9, b10, b11, b12, b13, b14, b15, b16, b17, b18, b19, b20, b21, b22, b23, b24, b25, gA, gC, gB⟩, rfl, rfl, k0, k1, k2, k3, k4, k5, k6, k7, k8, hHA, hHC, hHD, hN1, hN2, hN3, hG1, hG2, hG3, hHO, hHB⟩ ho hf hd K hK
    dsimp only at k0 k1 k2 k3 k4 k5 k6 k7 k8 hHA hHC hHD hN1 hN2 hN3 hG1 hG2 hG3 hHO hHB
    have hi : i < 26 := (Array.getElem?_eq_some_iff.1 ho).1
    have ho2 := ho
    rcases (show i = 0 ∨ i = 1 ∨ i = 2 ∨ i = 3 ∨ i = 4 ∨ i = 5 ∨ i = 6 ∨ i = 7 ∨ i = 8 ∨ i = 9 ∨ i = 10 ∨ i = 11 ∨ i = 12 ∨ i = 13 ∨ i = 14 ∨ i = 15 ∨ i = 16 ∨ i = 17 ∨ i = 18 ∨ i = 19 ∨ i = 20 ∨ i = 21 ∨ i = 22 ∨ i = 23 ∨ i = 24 ∨ i = 25 by omega) with rfl | rfl | rfl | rfl | rfl | rfl | rfl | rfl | rfl | rfl | rfl | rfl | rfl | rfl | rfl | rfl | rfl | rfl | rfl | rfl | rfl | rfl | rfl | rfl | rfl | rfl
    ·
     simp only [List.getElem?_toArray, List.getElem?_cons_succ, List.getElem?_cons_zero, Option.some.injEq] at ho
     subst ho
     replace hf : b0 = false := hf
     subst hf
     refine Go.Proofs.YtbmklpcheopgoaaReg.op_val ho2 rfl (v := .slice (some ad) l.length c0) (w1 := W') ?_ (hK _ _ ⟨⟨true, b1, b2, b3, b4, b5, b6, b7, b8, b9, b10, b11, b12, b13, b14, b15, b16, b17, b18, b19, b20, b21, b22, b23, b24, b25, gA, gC, gB⟩, rfl, rfl, (k0), (k1), (k2), (k3), (k4), (k5), (k6), (k7), (k8), hHA, hHC, hHD, hN1, hN2, hN3, hG1, hG2, hG3, hHO, hHB⟩)
     simp [go_sem, hu3]
    ·
     simp only [List.getElem?_toArray, List.getElem?_cons_succ, List.getElem?_cons_zero, Option.some.injEq] at ho
     subst ho
     replace hf : b1 = false := hf
     subst hf
     refine Go.Proofs.YtbmklpcheopgoaaReg.op_val ho2 rfl (v := .int .i64 i) (w1 := W') ?_ (hK _ _ ⟨⟨b0, true, b2, b3, b4, b5, b6, b7, b8, b9, b10, b11, b12, b13, b14, b15, b16, b17, b18, b19, b20, b21, b22, b23, b24, b25, gA, gC, gB⟩, rfl, rfl, (k0), (k1), (k2), (k3), (k4), (k5), (k6), (k7), (k8), hHA, hHC, hHD, hN1, hN2, hN3, hG1, hG2, hG3, hHO, hHB⟩)
     simp [go_sem, hu3]
    ·
     simp only [List.getElem?_toArray, List.getElem?_cons_succ, List.getElem?_cons_zero, Option.some.injEq] at ho
     subst ho
     replace hf : b2 = false := hf
     have d0 : b0 = true := hd ⟨0, .data⟩ (by simp) rfl
     have d1 : b1 = true := hd ⟨1, .data⟩ (by simp) rfl
     subst d0
     subst d1
     subst hf
     refine Go.Proofs.YtbmklpcheopgoaaReg.op_val ho2 rfl (v := .pointer (some (ad.add (i * 3)))) (w1 := W') ?_ (hK _ _ ⟨⟨true, true, true, b3, b4, b5, b6, b7, b8, b9, b10, b11, b12, b13, b14, b15, b16, b17, b18, b19, b20, b21, b22, b23, b24, b25, gA, gC, gB⟩, rfl, rfl, (k0), (k1), (k2), (k3), (k4), (k5), (k6), (k7), (k8), hHA, hHC, hHD, hN1, hN2, hN3, hG1, hG2, hG3, hHO, hHB⟩)
     simp [go_sem, hu3, hli]
    ·
     simp only [List.getElem?_toArray, List.getElem?_cons_succ, List.getElem?_cons_zero, Option.some.injEq] at ho
     subst ho
     replace hf : b3 = false := hf
     have d2 : b2 = true := hd ⟨2, .data⟩ (by simp) rfl
     subst d2
     subst hf
     refine Go.Proofs.YtbmklpcheopgoaaReg.op_val ho2 rfl (v := .agg #[.int .i64 (rd_T101 l ((i : Nat) : Int)).f0.f0, .int .i64 (rd_T101 l ((i : Nat) : Int)).f0.f1, .bool (rd_T101 l ((i : Nat) : Int)).f1]) (w1 := W') ?_ (hK _ _ ⟨⟨b0, b1, true, true, b4, b5, b6, b7, b8, b9, b10, b11, b12, b13, b14, b15, b16, b17, b18, b19, b20, b21, b22, b23, b24, b25, gA, gC, gB⟩, rfl, rfl, (k0), (k1), (k2), (k3), (k4), (k5), (k6), (k7), (k8), hHA, hHC, hHD, hN1, hN2, hN3, hG1, hG2, hG3, hHO, hHB⟩)
     simp [go_sem, hu, hu2, (hHB.cell (World.block_lt_of_cell? wr _ fa0)).trans fa0, (hHB.cell (World.block_lt_of_cell? wr _ fa1)).trans fa1, (hHB.cell (World.block_lt_of_cell? wr _ fa2)).trans fa2]
    ·
     simp only [List.getElem?_toArray, List.getElem?_cons_succ, List.getElem?_cons_zero, Option.some.injEq] at ho
     subst ho
     replace hf : b4 = false := hf
     subst hf
     refine Go.Proofs.YtbmklpcheopgoaaReg.op_val ho2 rfl (v := .slice (some ad) l.length c0) (w1 := W') ?_ (hK _ _ ⟨⟨b0, b1, b2, b3, true, b5, b6, b7, b8, b9, b10, b11, b12, b13, b14, b15, b16, b17, b18, b19, b20, b21, b22, b23, b24, b25, gA, gC, gB⟩, rfl, rfl, (k0), (k1), (k2), (k3), (k4), (k5), (k6), (k7), (k8), hHA, hHC, hHD, hN1, hN2, hN3, hG1, hG2, hG3, hHO, hHB⟩)
     simp [go_sem, hu3]
    ·
     simp only [List.getElem?_toArray, List.getElem?_cons_succ, List.getElem?_cons_zero, Option.some.injEq] at ho
     subst ho
     replace hf : b5 = false := hf
     subst hf
     refine Go.Proofs.YtbmklpcheopgoaaReg.op_val ho2 rfl (v := .int .i64 i) (w1 := W') ?_ (hK _ _ ⟨⟨b0, b1, b2, b3, b4, true, b6, b7, b8, b9, b10, b11, b12, b13, b14, b15, b16, b17, b18, b19, b20, b21, b22, b23, b24, b25, gA, gC, gB⟩, rfl, rfl, (k0), (k1), (k2), (k3), (k4), (k5), (k6), (k7), (k8), hHA, hHC, hHD, hN1, hN2, hN3, hG1, hG2, hG3, hHO, hHB⟩)
     simp [go_sem, hu3]
    ·
     simp only [List.getElem?_toArray, List.getElem?_cons_succ, List.getElem?_cons_zero, Option.some.injEq] at ho
     subst ho
     replace hf : b6 = false := hf
     have d5 : b5 = true := hd ⟨5, .data⟩ (by simp) rfl
     subst d5
     subst hf
     refine Go.Proofs.YtbmklpcheopgoaaReg.op_val ho2 rfl (v := .int .i64 ((i : Int) + 1)) (w1 := W') ?_ (hK _ _ ⟨⟨b0, b1, b2, b3, b4, true, true, b7, b8, b9, b10, b11, b12, b13, b14, b15, b16, b17, b18, b19, b20, b21, b22, b23, b24, b25, gA, gC, gB⟩, rfl, rfl, (k0), (k1), (k2), (k3), (k4), (k5), (k6), (k7), (k8), hHA, hHC, hHD, hN1, hN2, hN3, hG1, hG2, hG3, hHO, hHB⟩)
     simp [go_sem, hw1, hw1']
    ·
     simp only [List.getElem?_toArray, List.getElem?_cons_succ, List.getElem?_cons_zero, Option.some.injEq] at ho
     subst ho
     replace hf : b7 = false := hf
     subst hf
     refine Go.Proofs.YtbmklpcheopgoaaReg.op_val ho2 rfl (v := .slice (some ad) l.length c0) (w1 := W') ?_ (hK _ _ ⟨⟨b0, b1, b2, b3, b4, b5, b6, true, b8, b9, b10, b11, b12, b13, b14, b15, b16, b17, b18, b19, b20, b21, b22, b23, b24, b25, gA, gC, gB⟩, rfl, rfl, (k0), (k1), (k2), (k3), (k4), (k5), (k6), (k7), (k8), hHA, hHC, hHD, hN1, hN2, hN3, hG1, hG2, hG3, hHO, hHB⟩)
     simp [go_sem, hu3]
    ·
     simp only [List.getElem?_toArray, List.getElem?_cons_succ, List.getElem?_cons_zero, Option.some.injEq] at ho
     subst ho
     replace hf : b8 = false := hf
     have d7 : b7 = true := hd ⟨7, .data⟩ (by simp) rfl
     subst d7
     subst hf
     refine Go.Proofs.YtbmklpcheopgoaaReg.op_val ho2 rfl (v := .int .i64 l.length) (w1 := W') ?_ (hK _ _ ⟨⟨b0, b1, b2, b3, b4, b5, b6, true, true, b9, b10, b11, b12, b13, b14, b15, b16, b17, b18, b19, b20, b21, b22, b23, b24, b25, gA, gC, gB⟩, rfl, rfl, (k0), (k1), (k2), (k3), (k4), (k5), (k6), (k7), (k8), hHA, hHC, hHD, hN1, hN2, hN3, hG1, hG2, hG3, hHO, hHB⟩)
     simp [go_sem, hu3]
    ·
     simp only [List.getElem?_toArray, List.getElem?_cons_succ, List.getElem?_cons_zero, Option.some.injEq] at ho
     subst ho
     replace hf : b9 = false := hf
     have d6 : b6 = true := hd ⟨6, .data⟩ (by simp) rfl
     have d8 : b8 = true := hd ⟨8, .data⟩ (by simp) rfl
     subst d6
     subst d8
     subst hf
     refine Go.Proofs.YtbmklpcheopgoaaReg.op_val ho2 rfl (v := .int .i64 j1) (w1 := W') ?_ (hK _ _ ⟨⟨b0, b1, b2, b3, b4, b5, true, b7, true, true, b10, b11, b12, b13, b14, b15, b16, b17, b18, b19, b20, b21, b22, b23, b24, b25, gA, gC, gB⟩, rfl, rfl, (k0), (k1), (k2), (k3), (k4), (k5), (k6), (k7), (k8), hHA, hHC, hHD, hN1, hN2, hN3, hG1, hG2, hG3, hHO, hHB⟩)
     simp [go_sem, hm1, hn0, hm1', hne]
    ·
     simp only [List.getElem?_toArray, List.getElem?_cons_succ, List.getElem?_cons_zero, Option.some.injEq] at ho
     subst ho
     replace hf : b10 = false := hf
     have d4 : b4 = true := hd ⟨4, .data⟩ (by simp) rfl
     have d9 : b9 = true := hd ⟨9, .data⟩ (by simp) rfl
     subst d4
     subst d9
     subst hf
     refine Go.Proofs.YtbmklpcheopgoaaReg.op_val ho2 rfl (v := .pointer (some (ad.add (j1 * 3)))) (w1 := W') ?_ (hK _ _ ⟨⟨b0, b1, b2, b3, true, b5, b6, b7, b8, true, true, b11, b12, b13, b14, b15, b16, b17, b18, b19, b20, b21, b22, b23, b24, b25, gA, gC, gB⟩, rfl, rfl, (k0), (k1), (k2), (k3), (k4), (k5), (k6), (k7), (k8), hHA, hHC, hHD, hN1, hN2, hN3, hG1, hG2, hG3, hHO, hHB⟩)
     simp [go_sem, hu3, hlj1]
    ·
     simp only [List.getElem?_toArray, List.getElem?_cons_succ, List.getElem?_cons_zero, Option.some.injEq] at ho
     subst ho
     replace hf : b11 = false := hf
     have d10 : b10 = true := hd ⟨10, .data⟩ (by simp) rfl
     subst d10
     subst hf
     refine Go.Proofs.YtbmklpcheopgoaaReg.op_val ho2 rfl (v := .agg #[.int .i64 (rd_T101 l ((j1 : Nat) : Int)).f0.f0, .int .i64 (rd_T101 l ((j1 : Nat) : Int)).f0.f1, .bool (rd_T101 l ((j1 : Nat) : Int)).f1]) (w1 := W') ?_ (hK _ _ ⟨⟨b0, b1, b2, b3, b4, b5, b6, b7, b8, b9, true, true, b12, b13, b14, b15, b16, b17, b18, b19, b20, b21, b22, b23, b24, b25, gA, gC, gB⟩, rfl, rfl, (k0), (k1), (k2), (k3), (k4), (k5), (k6), (k7), (k8), hHA, hHC, hHD, hN1, hN2, hN3, hG1, hG2, hG3, hHO, hHB⟩)
     simp [go_sem, hu, hu2, (hHB.cell (World.block_lt_of_cell? wr _ fc0)).trans fc0, (hHB.cell (World.block_lt_of_cell? wr _ fc1)).trans fc1, (hHB.cell (World.block_lt_of_cell? wr _ fc2)).trans fc2]
    ·
     simp only [List.getElem?_toArray, List.getElem?_cons_succ, List.getElem?_cons_zero, Option.some.injEq] at ho
     subst ho
     replace hf : b12 = false := hf
     subst hf
     refine Go.Proofs.YtbmklpcheopgoaaReg.op_val ho2 rfl (v := .slice (some ad) l.length c0) (w1 := W') ?_ (hK _ _ ⟨⟨b0, b1, b2, b3, b4, b5, b6, b7, b8, b9, b10, b11, true, b13, b14, b15, b16, b17, b18, b19, b20, b21, b22, b23, b24, b25, gA, gC, gB⟩, rfl, rfl, (k0), (k1), (k2), (k3), (k4), (k5), (k6), (k7), (k8), hHA, hHC, hHD, hN1, hN2, hN3, hG1, hG2, hG3, hHO, hHB⟩)
     simp [go_sem, hu3]
    ·
     simp only [List.getElem?_toArray, List.getElem?_cons_succ, List.getElem?_cons_zero, Option.some.injEq] at ho
     subst ho
     replace hf : b13 = false := hf
     subst hf
     refine Go.Proofs.YtbmklpcheopgoaaReg.op_val ho2 rfl (v := .int .i64 i) (w1 := W') ?_ (hK _ _ ⟨⟨b0, b1, b2, b3, b4, b5, b6, b7, b8, b9, b10, b11, b12, true, b14, b15, b16, b17, b18, b19, b20, b21, b22, b23, b24, b25, gA, gC, gB⟩, rfl, rfl, (k0), (k1), (k2), (k3), (k4), (k5), (k6), (k7), (k8), hHA, hHC, hHD, hN1, hN2, hN3, hG1, hG2, hG3, hHO, hHB⟩)
     simp [go_sem, hu3]
    ·
     simp only [List.getElem?_toArray, List.getElem?_cons_succ, List.getElem?_cons_zero, Option.some.injEq] at ho
     subst ho
     replace hf : b14 = false := hf
     have d13 : b13 = true := hd ⟨13, .data⟩ (by simp) rfl
     subst d13
     subst hf
     refine Go.Proofs.YtbmklpcheopgoaaReg.op_val ho2 rfl (v := .int .i64 ((i : Int) + 2)) (w1 := W') ?_ (hK _ _ ⟨⟨b0, b1, b2, b3, b4, b5, b6, b7, b8, b9, b10, b11, b12, true, true, b15, b16, b17, b18, b19, b20, b21, b22, b23, b24, b25, gA, gC, gB⟩, rfl, rfl, (k0), (k1), (k2), (k3), (k4), (k5), (k6), (k7), (k8), hHA, hHC, hHD, hN1, hN2, hN3, hG1, hG2, hG3, hHO, hHB⟩)
     simp [go_sem, hw2, hw2']
    ·
     simp only [List.getElem?_toArray, List.getElem?_cons_succ, List.getElem?_cons_zero, Option.some.injEq] at ho
     subst ho
     replace hf : b15 = false := hf
     subst hf
     refine Go.Proofs.YtbmklpcheopgoaaReg.op_val ho2 rfl (v := .slice (some ad) l.length c0) (w1 := W') ?_ (hK _ _ ⟨⟨b0, b1, b2, b3, b4, b5, b6, b7, b8, b9, b10, b11, b12, b13, b14, true, b16, b17, b18, b19, b20, b21, b22, b23, b24, b25, gA, gC, gB⟩, rfl, rfl, (k0), (k1), (k2), (k3), (k4), (k5), (k6), (k7), (k8), hHA, hHC, hHD, hN1, hN2, hN3, hG1, hG2, hG3, hHO, hHB⟩)
     simp [go_sem, hu3]
    ·
     simp only [List.getElem?_toArray, List.getElem?_cons_succ, List.getElem?_cons_zero, Option.some.injEq] at ho
     subst ho
     replace hf : b16 = false := hf
     have d15 : b15 = true := hd ⟨15, .data⟩ (by simp) rfl
     subst d15
     subst hf
     refine Go.Proofs.YtbmklpcheopgoaaReg.op_val ho2 rfl (v := .int .i64 l.length) (w1 := W') ?_ (hK _ _ ⟨⟨b0, b1, b2, b3, b4, b5, b6, b7, b8, b9, b10, b11, b12, b13, b14, true, true, b17, b18, b19, b20, b21, b22, b23, b24, b25, gA, gC, gB⟩, rfl, rfl, (k0), (k1), (k2), (k3), (k4), (k5), (k6), (k7), (k8), hHA, hHC, hHD, hN1, hN2, hN3, hG1, hG2, hG3, hHO, hHB⟩)
     simp [go_sem, hu3]
    ·
     simp only [List.getElem?_toArray, List.getElem?_cons_succ, List.getElem?_cons_zero, Option.some.injEq] at ho
     subst ho
     replace hf : b17 = false := hf
     have d14 : b14 = true := hd ⟨14, .data⟩ (by simp) rfl
     have d16 : b16 = true := hd ⟨16, .data⟩ (by simp) rfl
     subst d14
     subst d16
     subst hf
     refine Go.Proofs.YtbmklpcheopgoaaReg.op_val ho2 rfl (v := .int .i64 j2) (w1 := W') ?_ (hK _ _ ⟨⟨b0, b1, b2, b3, b4, b5, b6, b7, b8, b9, b10, b11, b12, b13, true, b15, true, true, b18, b19, b20, b21, b22, b23, b24, b25, gA, gC, gB⟩, rfl, rfl, (k0), (k1), (k2), (k3), (k4), (k5), (k6), (k7), (k8), hHA, hHC, hHD, hN1, hN2, hN3, hG1, hG2, hG3, hHO, hHB⟩)
     simp [go_sem, hm2, hn0, hm2', hne]
    ·
     simp only [List.getElem?_toArray, List.getElem?_cons_succ, List.getElem?_cons_zero, Option.some.injEq] at ho
     subst ho
     replace hf : b18 = false := hf
     have d12 : b12 = true := hd ⟨12, .data⟩ (by simp) rfl
     have d17 : b17 = true := hd ⟨17, .data⟩ (by simp) rfl
     subst d12
     subst d17
     subst hf
     refine Go.Proofs.YtbmklpcheopgoaaReg.op_val ho2 rfl (v := .pointer (some (ad.add (j2 * 3)))) (w1 := W') ?_ (hK _ _ ⟨⟨b0, b1, b2, b3, b4, b5, b6, b7, b8, b9, b10, b11, true, b13, b14, b15, b16, true, true, b19, b20, b21, b22, b23, b24, b25, gA, gC, gB⟩, rfl, rfl, (k0), (k1), (k2), (k3), (k4), (k5), (k6), (k7), (k8), hHA, hHC, hHD, hN1, hN2, hN3, hG1, hG2, hG3, hHO, hHB⟩)
     simp [go_sem, hu3, hlj2]
    ·
     simp only [List.getElem?_toArray, List.getElem?_cons_succ, List.getElem?_cons_zero, Option.some.injEq] at ho
     subst ho
     replace hf : b19 = false := hf
     have d18 : b18 = true := hd ⟨18, .data⟩ (by simp) rfl
     subst d18
     subst hf
     refine Go.Proofs.YtbmklpcheopgoaaReg.op_val ho2 rfl (v := .agg #[.int .i64 (rd_T101 l ((j2 : Nat) : Int)).f0.f0, .int .i64 (rd_T101 l ((j2 : Nat) : Int)).f0.f1, .bool (rd_T101 l ((j2 : Nat) : Int)).f1]) (w1 := W') ?_ (hK _ _ ⟨⟨b0, b1, b2, b3, b4, b5, b6, b7, b8, b9, b10, b11, b12, b13, b14, b15, b16, b17, true, true, b20, b21, b22, b23, b24, b25, gA, gC, gB⟩, rfl, rfl, (k0), (k1), (k2), (k3), (k4), (k5), (k6), (k7), (k8), hHA, hHC, hHD, hN1, hN2, hN3, hG1, hG2, hG3, hHO, hHB⟩)
     simp [go_sem, hu, hu2, (hHB.cell (World.block_lt_of_cell? wr _ fb0)).trans fb0, (hHB.cell (World.block_lt_of_cell? wr _ fb1)).trans fb1, (hHB.cell (World.block_lt_of_cell? wr _ fb2)).trans fb2]
    ·
     simp only [List.getElem?_toArray, List.getElem?_cons_succ, List.getElem?_cons_zero, Option.some.injEq] at ho
     subst ho
     replace hf : b20 = false := hf
     have n23 : b23 = false := Bool.eq_false_iff.mpr (fun h => absurd (k0 h) (by rw [hf]; decide))
     have n24 : b24 = false := Bool.eq_false_iff.mpr (fun h => absurd (k3 h) (by rw [hf]; decide))
     have n25 : b25 = false := Bool.eq_false_iff.mpr (fun h => absurd (k6 h) (by rw [hf]; decide))
     subst n23
     subst n24
     subst n25
     subst hf
     refine Go.Proofs.YtbmklpcheopgoaaReg.op_val ho2 rfl (v := .pointer (some ⟨(W'.heap.size), 0, none⟩)) (w1 := W'.alloc (.cells #[.int .i64 0, .int .i64 0, .bool false] 101)) ?_ (hK _ _ ⟨⟨b0, b1, b2, b3, b4, b5, b6, b7, b8, b9, b10, b11, b12, b13, b14, b15, b16, b17, b18, b19, true, b21, b22, false, false, false, W'.heap.size, gC, gB⟩, rfl, rfl, (fun _ => rfl), (fun h => Bool.noConfusion h), (fun h => Bool.noConfusion h), (fun _ => rfl), (fun h => Bool.noConfusion h), (fun h => Bool.noConfusion h), (fun _ => rfl), (fun h => Bool.noConfusion h), (fun h => Bool.noConfusion h), (fun _ => blk_new W' (.cells #[.int .i64 0, .int .i64 0, .bool false] 101)), (fun h => kA (hHC h) _), (fun h => kA (hHD h) _), (fun _ h e => absurd (blk_lt (hHC h)) (by dsimp only at e; omega)), (fun _ h e => absurd (blk_lt (hHD h)) (by dsimp only at e; omega)), hN3, (fun _ => hHB.size), hG2, hG3, (R_chg hHO ((Chg.refl (fun _ => False) _).alloc _) (fun _ _ => id)), (hHB.alloc hHB.size _)⟩)
     simp [go_sem, hu, hu2]
    ·
     simp only [List.getElem?_toArray, List.getElem?_cons_succ, List.getElem?_cons_zero, Option.some.injEq] at ho
     subst ho
     replace hf : b21 = false := hf
     have n23 : b23 = false := Bool.eq_false_iff.mpr (fun h => absurd (k1 h) (by rw [hf]; decide))
     have n24 : b24 = false := Bool.eq_false_iff.mpr (fun h => absurd (k4 h) (by rw [hf]; decide))
     have n25 : b25 = false := Bool.eq_false_iff.mpr (fun h => absurd (k7 h) (by rw [hf]; decide))
     subst n23
     subst n24
     subst n25
     subst hf
     refine Go.Proofs.YtbmklpcheopgoaaReg.op_val ho2 rfl (v := .pointer (some ⟨(W'.heap.size), 0, none⟩)) (w1 := W'.alloc (.cells #[.int .i64 0, .int .i64 0, .bool false] 101)) ?_ (hK _ _ ⟨⟨b0, b1, b2, b3, b4, b5, b6, b7, b8, b9, b10, b11, b12, b13, b14, b15, b16, b17, b18, b19, b20, true, b22, false, false, false, gA, W'.heap.size, gB⟩, rfl, rfl, (fun h => Bool.noConfusion h), (fun _ => rfl), (fun h => Bool.noConfusion h), (fun h => Bool.noConfusion h), (fun _ => rfl), (fun h => Bool.noConfusion h), (fun h => Bool.noConfusion h), (fun _ => rfl), (fun h => Bool.noConfusion h), (fun h => kA (hHA h) _), (fun _ => blk_new W' (.cells #[.int .i64 0, .int .i64 0, .bool false] 101)), (fun h => kA (hHD h) _), (fun h _ e => absurd (blk_lt (hHA h)) (by dsimp only at e; omega)), hN2, (fun _ h e => absurd (blk_lt (hHD h)) (by dsimp only at e; omega)), hG1, (fun _ => hHB.size), hG3, (R_chg hHO ((Chg.refl (fun _ => False) _).alloc _) (fun _ _ => id)), (hHB.alloc hHB.size _)⟩)
     simp [go_sem, hu, hu2]
    ·
     simp only [List.getElem?_toArray, List.getElem?_cons_succ, List.getElem?_cons_zero, Option.some.injEq] at ho
     subst ho
     replace hf : b22 = false := hf
     have n23 : b23 = false := Bool.eq_false_iff.mpr (fun h => absurd (k2 h) (by rw [hf]; decide))
     have n24 : b24 = false := Bool.eq_false_iff.mpr (fun h => absurd (k5 h) (by rw [hf]; decide))
     have n25 : b25 = false := Bool.eq_false_iff.mpr (fun h => absurd (k8 h) (by rw [hf]; decide))
     subst n23
     subst n24
     subst n25
     subst hf
     refine Go.Proofs.YtbmklpcheopgoaaReg.op_val ho2 rfl (v := .pointer (some ⟨(W'.heap.size), 0, none⟩)) (w1 := W'.alloc (.cells #[.int .i64 0, .int .i64 0, .bool false] 101)) ?_ (hK _ _ ⟨⟨b0, b1, b2, b3, b4, b5, b6, b7, b8, b9, b10, b11, b12, b13, b14, b15, b16, b17, b18, b19, b20, b21, true, false, false, false, gA, gC, W'.heap.size⟩, rfl, rfl, (fun h => Bool.noConfusion h), (fun h => Bool.noConfusion h), (fun _ => rfl), (fun h => Bool.noConfusion h), (fun h => Bool.noConfusion h), (fun _ => rfl), (fun h => Bool.noConfusion h), (fun h => Bool.noConfusion h), (fun _ => rfl), (fun h => kA (hHA h) _), (fun h => kA (hHC h) _), (fun _ => blk_new W' (.cells #[.int .i64 0, .int .i64 0, .bool false] 101)), hN1, (fun h _ e => absurd (blk_lt (hHA h)) (by dsimp only at e; omega)), (fun h _ e => absurd (blk_lt (hHC h)) (by dsimp only at e; omega)), hG1, hG2, (fun _ => hHB.size), (R_chg hHO ((Chg.refl (fun _ => False) _).alloc _) (fun _ _ => id)), (hHB.alloc hHB.size _)⟩)
     simp [go_sem, hu, hu2]
    ·
     simp only [List.getElem?_toArray, List.getElem?_cons_succ, List.getElem?_cons_zero, Option.some.injEq] at ho
     subst ho
     replace hf : b23 = false := hf
     have d0 : b0 = true := hd ⟨0, .phase⟩ (by simp) rfl
     have d1 : b1 = true := hd ⟨1, .phase⟩ (by simp) rfl
     have d2 : b2 = true := hd ⟨2, .phase⟩ (by simp) rfl
     have d3 : b3 = true := hd ⟨3, .data⟩ (by simp) rfl
     have d20 : b20 = true := hd ⟨20, .data⟩ (by simp) rfl
     have d21 : b21 = true := hd ⟨21, .phase⟩ (by simp) rfl
     have d22 : b22 = true := hd ⟨22, .phase⟩ (by simp) rfl
     subst d0
     subst d1
     subst d2
     subst d3
     subst d20
     subst d21
     subst d22
     subst hf
     refine Go.Proofs.YtbmklpcheopgoaaReg.op_skip ho2 rfl (w1 := (((W'.setCell ⟨gA, 0, none⟩ (.int .i64 (rd_T101 l ((i : Nat) : Int)).f0.f0)).setCell ⟨gA, 1, none⟩ (.int .i64 (rd_T101 l ((i : Nat) : Int)).f0.f1)).setCell ⟨gA, 2, none⟩ (.bool (rd_T101 l ((i : Nat) : Int)).f1))) ?_ (hK _ _ ⟨⟨true, true, true, true, b4, b5, b6, b7, b8, b9, b10, b11, b12, b13, b14, b15, b16, b17, b18, b19, true, true, true, true, b24, b25, gA, gC, gB⟩, rfl, rfl, (fun _ => rfl), (fun _ => rfl), (fun _ => rfl), (fun _ => rfl), (fun _ => rfl), (fun _ => rfl), (fun _ => rfl), (fun _ => rfl), (fun _ => rfl), (fun _ => (blk_put (blk_put (blk_put (hHA rfl) 0 (.int .i64 (rd_T101 l ((i : Nat) : Int)).f0.f0) rfl) 1 (.int .i64 (rd_T101 l ((i : Nat) : Int)).f0.f1) rfl) 2 (.bool (rd_T101 l ((i : Nat) : Int)).f1) rfl)), (fun _ => Chg.heap (Chg.setCell (p := ⟨gA, 2, none⟩) (Chg.setCell (p := ⟨gA, 1, none⟩) (Chg.setCell (p := ⟨gA, 0, none⟩) (Chg.refl (fun b => b = gA) W') (fun _ => rfl) (.int .i64 (rd_T101 l ((i : Nat) : Int)).f0.f0)) (fun _ => rfl) (.int .i64 (rd_T101 l ((i : Nat) : Int)).f0.f1)) (fun _ => rfl) (.bool (rd_T101 l ((i : Nat) : Int)).f1)) (hHC rfl) (fun e => hN1 rfl rfl e.symm)), (fun _ => Chg.heap (Chg.setCell (p := ⟨gA, 2, none⟩) (Chg.setCell (p := ⟨gA, 1, none⟩) (Chg.setCell (p := ⟨gA, 0, none⟩) (Chg.refl (fun b => b = gA) W') (fun _ => rfl) (.int .i64 (rd_T101 l ((i : Nat) : Int)).f0.f0)) (fun _ => rfl) (.int .i64 (rd_T101 l ((i : Nat) : Int)).f0.f1)) (fun _ => rfl) (.bool (rd_T101 l ((i : Nat) : Int)).f1)) (hHD rfl) (fun e => hN2 rfl rfl e.symm)), hN1, hN2, hN3, hG1, hG2, hG3, (R_chg hHO (Chg.setCell (p := ⟨gA, 2, none⟩) (Chg.setCell (p := ⟨gA, 1, none⟩) (Chg.setCell (p := ⟨gA, 0, none⟩) (Chg.refl (fun b => b = gA) W') (fun _ => rfl) (.int .i64 (rd_T101 l ((i : Nat) : Int)).f0.f0)) (fun _ => rfl) (.int .i64 (rd_T101 l ((i : Nat) : Int)).f0.f1)) (fun _ => rfl) (.bool (rd_T101 l ((i : Nat) : Int)).f1)) (fun k hk e => by subst e; have := hOlt k hk; have := hG1 rfl; omega)), (Below.setCell (Below.setCell (Below.setCell hHB (hG1 rfl) (.int .i64 (rd_T101 l ((i : Nat) : Int)).f0.f0)) (hG1 rfl) (.int .i64 (rd_T101 l ((i : Nat) : Int)).f0.f1)) (hG1 rfl) (.bool (rd_T101 l ((i : Nat) : Int)).f1))⟩)
     simp [go_sem, hu, hu2, blk_cell (hHA rfl) 0, blk_cell (hHA rfl) 1, blk_cell (hHA rfl) 2, blk_frozen (hHA rfl) 0, blk_frozen (hHA rfl) 1, blk_frozen (hHA rfl) 2]
    ·
     simp only [List.getElem?_toArray, List.getElem?_cons_succ, List.getElem?_cons_zero, Option.some.injEq] at ho
     subst ho
     replace hf : b24 = false := hf
     have d0 : b0 = true := hd ⟨0, .phase⟩ (by simp) rfl
     have d1 : b1 = true := hd ⟨1, .phase⟩ (by simp) rfl
     have d2 : b2 = true := hd ⟨2, .phase⟩ (by simp) rfl
     have d3 : b3 = true := hd ⟨3, .phase⟩ (by simp) rfl
     have d4 : b4 = true := hd ⟨4, .phase⟩ (by simp) rfl
     have d5 : b5 = true := hd ⟨5, .phase⟩ (by simp) rfl
     have d6 : b6 = true := hd ⟨6, .phase⟩ (by simp) rfl
     have d7 : b7 = true := hd ⟨7, .phase⟩ (by simp) rfl
     have d8 : b8 = true := hd ⟨8, .phase⟩ (by simp) rfl
     have d9 : b9 = true := hd ⟨9, .phase⟩ (by simp) rfl
     have d10 : b10 = true := hd ⟨10, .phase⟩ (by simp) rfl
     have d11 : b11 = true := hd ⟨11, .data⟩ (by simp) rfl
     have d20 : b20 = true := hd ⟨20, .phase⟩ (by simp) rfl
     have d21 : b21 = true := hd ⟨21, .data⟩ (by simp) rfl
     have d22 : b22 = true := hd ⟨22, .phase⟩ (by simp) rfl
     have d23 : b23 = true := hd ⟨23, .chain⟩ (by simp) rfl
     subst d0
     subst d1
     subst d2
     subst d3
     subst d4
     subst d5
     subst d6
     subst d7
     subst d8
     subst d9
     subst d10
     subst d11
     subst d20
     subst d21
     subst d22
     subst d23
     subst hf
     refine Go.Proofs.YtbmklpcheopgoaaReg.op_skip ho2 rfl (w1 := (((W'.setCell ⟨gC, 0, none⟩ (.int .i64 (rd_T101 l ((j1 : Nat) : Int)).f0.f0)).setCell ⟨gC, 1, none⟩ (.int .i64 (rd_T101 l ((j1 : Nat) : Int)).f0.f1)).setCell ⟨gC, 2, none⟩ (.bool (rd_T101 l ((j1 : Nat) : Int)).f1))) ?_ (hK _ _ ⟨⟨true, true, true, true, true, true, true, true, true, true, true, true, b12, b13, b14, b15, b16, b17, b18, b19, true, true, true, true, true, b25, gA, gC, gB⟩, rfl, rfl, (fun _ => rfl), (fun _ => rfl), (fun _ => rfl), (fun _ => rfl), (fun _ => rfl), (fun _ => rfl), (fun _ => rfl), (fun _ => rfl), (fun _ => rfl), (fun _ => Chg.heap (Chg.setCell (p := ⟨gC, 2, none⟩) (Chg.setCell (p := ⟨gC, 1, none⟩) (Chg.setCell (p := ⟨gC, 0, none⟩) (Chg.refl (fun b => b = gC) W') (fun _ => rfl) (.int .i64 (rd_T101 l ((j1 : Nat) : Int)).f0.f0)) (fun _ => rfl) (.int .i64 (rd_T101 l ((j1 : Nat) : Int)).f0.f1)) (fun _ => rfl) (.bool (rd_T101 l ((j1 : Nat) : Int)).f1)) (hHA rfl) (fun e => hN1 rfl rfl e)), (fun _ => (blk_put (blk_put (blk_put (hHC rfl) 0 (.int .i64 (rd_T101 l ((j1 : Nat) : Int)).f0.f0) rfl) 1 (.int .i64 (rd_T101 l ((j1 : Nat) : Int)).f0.f1) rfl) 2 (.bool (rd_T101 l ((j1 : Nat) : Int)).f1) rfl)), (fun _ => Chg.heap (Chg.setCell (p := ⟨gC, 2, none⟩) (Chg.setCell (p := ⟨gC, 1, none⟩) (Chg.setCell (p := ⟨gC, 0, none⟩) (Chg.refl (fun b => b = gC) W') (fun _ => rfl) (.int .i64 (rd_T101 l ((j1 : Nat) : Int)).f0.f0)) (fun _ => rfl) (.int .i64 (rd_T101 l ((j1 : Nat) : Int)).f0.f1)) (fun _ => rfl) (.bool (rd_T101 l ((j1 : Nat) : Int)).f1)) (hHD rfl) (fun e => hN3 rfl rfl e.symm)), hN1, hN2, hN3, hG1, hG2, hG3, (R_chg hHO (Chg.setCell (p := ⟨gC, 2, none⟩) (Chg.setCell (p := ⟨gC, 1, none⟩) (Chg.setCell (p := ⟨gC, 0, none⟩) (Chg.refl (fun b => b = gC) W') (fun _ => rfl) (.int .i64 (rd_T101 l ((j1 : Nat) : Int)).f0.f0)) (fun _ => rfl) (.int .i64 (rd_T101 l ((j1 : Nat) : Int)).f0.f1)) (fun _ => rfl) (.bool (rd_T101 l ((j1 : Nat) : Int)).f1)) (fun k hk e => by subst e; have := hOlt k hk; have := hG2 rfl; omega)), (Below.setCell (Below.setCell (Below.setCell hHB (hG2 rfl) (.int .i64 (rd_T101 l ((j1 : Nat) : Int)).f0.f0)) (hG2 rfl) (.int .i64 (rd_T101 l ((j1 : Nat) : Int)).f0.f1)) (hG2 rfl) (.bool (rd_T101 l ((j1 : Nat) : Int)).f1))⟩)
     simp [go_sem, hu, hu2, blk_cell (hHC rfl) 0, blk_cell (hHC rfl) 1, blk_cell (hHC rfl) 2, blk_frozen (hHC rfl) 0, blk_frozen (hHC rfl) 1, blk_frozen (hHC rfl) 2]
    ·
     simp only [List.getElem?_toArray, List.getElem?_cons_succ, List.getElem?_cons_zero, Option.some.injEq] at ho
     subst ho
     replace hf : b25 = false := hf
     have d0 : b0 = true := hd ⟨0, .phase⟩ (by simp) rfl
     have d1 : b1 = true := hd ⟨1, .phase⟩ (by simp) rfl
     have d2 : b2 = true := hd ⟨2, .phase⟩ (by simp) rfl
     have d3 : b3 = true := hd ⟨3, .phase⟩ (by simp) rfl
     have d4 : b4 = true := hd ⟨4, .phase⟩ (by simp) rfl
     have d5 : b5 = true := hd ⟨5, .phase⟩ (by simp) rfl
     have d6 : b6 = true := hd ⟨6, .phase⟩ (by simp) rfl
     have d7 : b7 = true := hd ⟨7, .phase⟩ (by simp) rfl
     have d8 : b8 = true := hd ⟨8, .phase⟩ (by simp) rfl
     have d9 : b9 = true := hd ⟨9, .phase⟩ (by simp) rfl
     have d10 : b10 = true := hd ⟨10, .phase⟩ (by simp) rfl
     have d11 : b11 = true := hd ⟨11, .phase⟩ (by simp) rfl
     have d12 : b12 = true := hd ⟨12, .phase⟩ (by simp) rfl
     have d13 : b13 = true := hd ⟨13, .phase⟩ (by simp) rfl
     have d14 : b14 = true := hd ⟨14, .phase⟩ (by simp) rfl
     have d15 : b15 = true := hd ⟨15, .phase⟩ (by simp) rfl
     have d16 : b16 = true := hd ⟨16, .phase⟩ (by simp) rfl
     have d17 : b17 = true := hd ⟨17, .phase⟩ (by simp) rfl
     have d18 : b18 = true := hd ⟨18, .phase⟩ (by simp) rfl
     have d19 : b19 = true := hd ⟨19, .data⟩ (by simp) rfl
     have d20 : b20 = true := hd ⟨20, .phase⟩ (by simp) rfl
     have d21 : b21 = true := hd ⟨21, .phase⟩ (by simp) rfl
     have d22 : b22 = true := hd ⟨22, .data⟩ (by simp) rfl
     have d23 : b23 = true := hd ⟨23, .phase⟩ (by simp) rfl
     have d24 : b24 = true := hd ⟨24, .chain⟩ (by simp) rfl
     subst d0
     subst d1
     subst d2
     subst d3
     subst d4
     subst d5
     subst d6
     subst d7
     subst d8
     subst d9
     subst d10
     subst d11
     subst d12
     subst d13
     subst d14
     subst d15
     subst d16
     subst d17
     subst d18
     subst d19
     subst d20
     subst d21
     subst d22
     subst d23
     subst d24
     subst hf
     refine Go.Proofs.YtbmklpcheopgoaaReg.op_skip ho2 rfl (w1 := (((W'.setCell ⟨gB, 0, none⟩ (.int .i64 (rd_T101 l ((j2 : Nat) : Int)).f0.f0)).setCell ⟨gB, 1, none⟩ (.int .i64 (rd_T101 l ((j2 : Nat) : Int)).f0.f1)).setCell ⟨gB, 2, none⟩ (.bool (rd_T101 l ((j2 : Nat) : Int)).f1))) ?_ (hK _ _ ⟨⟨true, true, true, true, true, true, true, true, true, true, true, true, true, true, true, true, true, true, true, true, true, true, true, true, true, true, gA, gC, gB⟩, rfl, rfl, (fun _ => rfl), (fun _ => rfl), (fun _ => rfl), (fun _ => rfl), (fun _ => rfl), (fun _ => rfl), (fun _ => rfl), (fun _ => rfl), (fun _ => rfl), (fun _ => Chg.heap (Chg.setCell (p := ⟨gB, 2, none⟩) (Chg.setCell (p := ⟨gB, 1, none⟩) (Chg.setCell (p := ⟨gB, 0, none⟩) (Chg.refl (fun b => b = gB) W') (fun _ => rfl) (.int .i64 (rd_T101 l ((j2 : Nat) : Int)).f0.f0)) (fun _ => rfl) (.int .i64 (rd_T101 l ((j2 : Nat) : Int)).f0.f1)) (fun _ => rfl) (.bool (rd_T101 l ((j2 : Nat) : Int)).f1)) (hHA rfl) (fun e => hN2 rfl rfl e)), (fun _ => Chg.heap (Chg.setCell (p := ⟨gB, 2, none⟩) (Chg.setCell (p := ⟨gB, 1, none⟩) (Chg.setCell (p := ⟨gB, 0, none⟩) (Chg.refl (fun b => b = gB) W') (fun _ => rfl) (.int .i64 (rd_T101 l ((j2 : Nat) : Int)).f0.f0)) (fun _ => rfl) (.int .i64 (rd_T101 l ((j2 : Nat) : Int)).f0.f1)) (fun _ => rfl) (.bool (rd_T101 l ((j2 : Nat) : Int)).f1)) (hHC rfl) (fun e => hN3 rfl rfl e)), (fun _ => (blk_put (blk_put (blk_put (hHD rfl) 0 (.int .i64 (rd_T101 l ((j2 : Nat) : Int)).f0.f0) rfl) 1 (.int .i64 (rd_T101 l ((j2 : Nat) : Int)).f0.f1) rfl) 2 (.bool (rd_T101 l ((j2 : Nat) : Int)).f1) rfl)), hN1, hN2, hN3, hG1, hG2, hG3, (R_chg hHO (Chg.setCell (p := ⟨gB, 2, none⟩) (Chg.setCell (p := ⟨gB, 1, none⟩) (Chg.setCell (p := ⟨gB, 0, none⟩) (Chg.refl (fun b => b = gB) W') (fun _ => rfl) (.int .i64 (rd_T101 l ((j2 : Nat) : Int)).f0.f0)) (fun _ => rfl) (.int .i64 (rd_T101 l ((j2 : Nat) : Int)).f0.f1)) (fun _ => rfl) (.bool (rd_T101 l ((j2 : Nat) : Int)).f1)) (fun k hk e => by subst e; have := hOlt k hk; have := hG3 rfl; omega)), (Below.setCell (Below.setCell (Below.setCell hHB (hG3 rfl) (.int .i64 (rd_T101 l ((j2 : Nat) : Int)).f0.f0)) (hG3 rfl) (.int .i64 (rd_T101 l ((j2 : Nat) : Int)).f0.f1)) (hG3 rfl) (.bool (rd_T101 l ((j2 : Nat) : Int)).f1))⟩)
     simp [go_sem, hu, hu2, blk_cell (hHD rfl) 0, blk_cell (hHD rfl) 1, blk_cell (hHD rfl) 2, blk_frozen (hHD rfl) 0, blk_frozen (hHD rfl) 1, blk_frozen (hHD rfl) 2]
   ·
    rintro lst a W' ⟨⟨b0, b1, b2, b3, b4, b5, b6, b7, b8, b9, b10, b11, b12, b13, b14, b15, b16, b17, b18, b19, b20, b21, b22, b23, b24, b25, gA, gC, gB⟩, rfl, rfl, k0, k1, k2, k3, k4, k5, k6, k7, k8, hHA, hHC, hHD, hN1, hN2, hN3, hG1, hG2, hG3, hHO, hHB⟩ hall
    dsimp only at k0 k1 k2 k3 k4 k5 k6 k7 k8 hHA hHC hHD hN1 hN2 hN3 hG1 hG2 hG3 hHO hHB
    have a0 : b0 = true := hall 0 (by decide)
    have a1 : b1 = true := hall 1 (by decide)
    have a2 : b2 = true := hall 2 (by decide)
    have a3 : b3 = true := hall 3 (by decide)
    have a4 : b4 = true := hall 4 (by decide)
    have a5 : b5 = true := hall 5 (by decide)
    have a6 : b6 = true := hall 6 (by decide)
    have a7 : b7 = true := hall 7 (by decide)
    have a8 : b8 = true := hall 8 (by decide)
    have a9 : b9 = true := hall 9 (by decide)
    have a10 : b10 = true := hall 10 (by decide)
    have a11 : b11 = true := hall 11 (by decide)
    have a12 : b12 = true := hall 12 (by decide)
    have a13 : b13 = true := hall 13 (by decide)
    have a14 : b14 = true := hall 14 (by decide)
    have a15 : b15 = true := hall 15 (by decide)
    have a16 : b16 = true := hall 16 (by decide)
    have a17 : b17 = true := hall 17 (by decide)
    have a18 : b18 = true := hall 18 (by decide)
    have a19 : b19 = true := hall 19 (by decide)
    have a20 : b20 = true := hall 20 (by decide)
    have a21 : b21 = true := hall 21 (by decide)
    have a22 : b22 = true := hall 22 (by decide)
    have a23 : b23 = true := hall 23 (by decide)
    have a24 : b24 = true := hall 24 (by decide)
    have a25 : b25 = true := hall 25 (by decide)
    subst a0 a1 a2 a3 a4 a5 a6 a7 a8 a9 a10 a11 a12 a13 a14 a15 a16 a17 a18 a19 a20 a21 a22 a23 a24 a25
    clear k0 k1 k2 k3 k4 k5 k6 k7 k8
    clear hall
    have HA : W'.heap[gA]? = some (.cells #[cond true (.int .i64 (rd_T101 l ((i : Nat) : Int)).f0.f0) (.int .i64 0), cond true (.int .i64 (rd_T101 l ((i : Nat) : Int)).f0.f1) (.int .i64 0), cond true (.bool (rd_T101 l ((i : Nat) : Int)).f1) (.bool false)] 101 (0, 0)) := hHA rfl
    have HC : W'.heap[gC]? = some (.cells #[cond true (.int .i64 (rd_T101 l ((j1 : Nat) : Int)).f0.f0) (.int .i64 0), cond true (.int .i64 (rd_T101 l ((j1 : Nat) : Int)).f0.f1) (.int .i64 0), cond true (.bool (rd_T101 l ((j1 : Nat) : Int)).f1) (.bool false)] 101 (0, 0)) := hHC rfl
    have HD : W'.heap[gB]? = some (.cells #[cond true (.int .i64 (rd_T101 l ((j2 : Nat) : Int)).f0.f0) (.int .i64 0), cond true (.int .i64 (rd_T101 l ((j2 : Nat) : Int)).f0.f1) (.int .i64 0), cond true (.bool (rd_T101 l ((j2 : Nat) : Int)).f1) (.bool false)] 101 (0, 0)) := hHD rfl
    have N1 : gA ≠ gC := hN1 rfl rfl
    have N2 : gA ≠ gB := hN2 rfl rfl
    have N3 : gC ≠ gB := hN3 rfl rfl
    have G1 : wr.heap.size ≤ gA := hG1 rfl
    have G2 : wr.heap.size ≤ gC := hG2 rfl
    have G3 : wr.heap.size ≤ gB := hG3 rfl
    have HO : Kd.R k52 52 W' w.heap.size (Own1 (.slice Ao out.length co)) (.slice Ao out.length co) out := hHO
    have HB : Below wr.heap.size wr W' := hHB
    clear hHA hHC hHD hN1 hN2 hN3 hG1 hG2 hG3 hHO hHB
    simp only [cond_true]
    have hBw : Below w.heap.size w W' := HB_.out.trans (HB.mono HB_.out.size)
    have g0 := blk_cell HC 0
    have g1 := blk_cell HC 1
    have g2 := blk_cell HC 2
    simp only [cond_true] at g0 g1 g2 HA HC HD
    simp at g0 g1 g2
    clear fa0 fa1 fa2 fc0 fc1 fc2 fb0 fb1 fb2
    have HOO := Lib.hid HO
    have hE := Lib.hid (And.intro hBw HG)
    have hOl2 : ∀ k, (Value.slice Ao out.length co).ownBlock = some k → k < wr.heap.size := hOlt
    clear HB hBw HG hOlt HO
    cases hon : (rd_T101 l ((j1 : Nat) : Int)).f1 with
    | true =>
     obtain ⟨v1, w1, hrun, hR1, hg1, hat⟩ := run_append1 (P := Try.prog) (ty := 42) k52 (W := W'.alloc (.cells #[.int .i64 (rd_T101 l ((j1 : Nat) : Int)).f0.f0, .int .i64 (rd_T101 l ((j1 : Nat) : Int)).f0.f1] 52)) w.heap.size Try.underlying42 info_pt2 rfl (by decide) (by decide) (.slice Ao out.length co) out (rd_T101 l ((j1 : Nat) : Int)).f0 [.int .i64 (rd_T101 l ((j1 : Nat) : Int)).f0.f0, .int .i64 (rd_T101 l ((j1 : Nat) : Int)).f0.f1] (fun _ => True) (fun _ => False) ⟨W'.heap.size, 0, none⟩ 1
      (fun j u hj => by rw [add_plain, ((Blks.nil W').alloc _).cell 0 rfl j]; simpa using hj) (k52_mkM _ _ _ _) (fun _ hk => hk.elim) (fun _ _ => trivial) (R_all (R_chg HOO.out ((Chg.refl (fun _ => False) _).alloc _) (fun _ _ => id))) (by have := hE.out.1.size; simp; omega) (by omega)
     have hR1 := R_own1 flat_pt2 hR1
     have hB1 := pw_below_grown (hE.out.1.alloc hE.out.1.size _) _ (hE.out.1.alloc hE.out.1.size _).size hg1 (fun k hk => Kd.R_base HOO.out k hk)
     have hJ := Lib.hid (And.intro hj1 hj2)
     have hRR := Lib.hid (And.intro hR1 hB1)
     clear hj1 hj2 hR1 hB1
     go_wp2_with (refine app_list rfl rfl rfl rfl hrun ?_)
     refine ⟨⟨i + 1, out ++ [(rd_T101 l ((j1 : Nat) : Int)).f0], by omega, by simp, by simp, by simp; omega, ⟨?_, hRR.out.1, hRR.out.2⟩⟩, by simp [intOf]; omega⟩
     rw [← hE.out.2, rowGo_on l i out hlt (by rw [hJ.out.1]; exact hon), hJ.out.1]
    | false =>
     have hB3 : Blks [(gA, .cells #[.int .i64 (rd_T101 l ((i : Nat) : Int)).f0.f0, .int .i64 (rd_T101 l ((i : Nat) : Int)).f0.f1, .bool (rd_T101 l ((i : Nat) : Int)).f1] 101 (0, 0)), (gC, .cells #[.int .i64 (rd_T101 l ((j1 : Nat) : Int)).f0.f0, .int .i64 (rd_T101 l ((j1 : Nat) : Int)).f0.f1, .bool (rd_T101 l ((j1 : Nat) : Int)).f1] 101 (0, 0)), (gB, .cells #[.int .i64 (rd_T101 l ((j2 : Nat) : Int)).f0.f0, .int .i64 (rd_T101 l ((j2 : Nat) : Int)).f0.f1, .bool (rd_T101 l ((j2 : Nat) : Int)).f1] 101 (0, 0))] W' := (((Blks.nil W').add HD (by simp)).add HC (by simpa using N3)).add HA (by simp; exact ⟨N1, N2⟩)
     have hJ := Lib.hid (And.intro hj1 hj2)
     clear hj1 hj2 HA HC HD g0 g1
     have hB3 := Lib.hid hB3
     have hons := Lib.hid hon
     go_wp2
     go_loopw [3, 8] (fun v3 v8 wr2 => ∃ m : Nat, m ≤ 8 ∧ v8 = .int .i64 ((1 + m : Nat) : Int) ∧ Aside0 (Kd.R k52 52 wr2 w.heap.size (Own1 v3) v3 (out ++ curveK l i m) ∧ Blks [(gA, .cells #[.int .i64 (rd_T101 l ((i : Nat) : Int)).f0.f0, .int .i64 (rd_T101 l ((i : Nat) : Int)).f0.f1, .bool (rd_T101 l ((i : Nat) : Int)).f1] 101 (0, 0)), (gC, .cells #[.int .i64 (rd_T101 l ((j1 : Nat) : Int)).f0.f0, .int .i64 (rd_T101 l ((j1 : Nat) : Int)).f0.f1, .bool (rd_T101 l ((j1 : Nat) : Int)).f1] 101 (0, 0)), (gB, .cells #[.int .i64 (rd_T101 l ((j2 : Nat) : Int)).f0.f0, .int .i64 (rd_T101 l ((j2 : Nat) : Int)).f0.f1, .bool (rd_T101 l ((j2 : Nat) : Int)).f1] 101 (0, 0))] wr2 ∧ Below w.heap.size w wr2))
      (fun _ v8 _ => 10 - (intOf v8).toNat)
     case atStart => exact ⟨0, by omega, rfl, ⟨by simpa [curveK] using HOO.out, hB3.out, hE.out.1⟩⟩
     case round =>
      obtain ⟨m, hm, rfl, ⟨HO, HB, HW⟩⟩ := hrel
      have hlen2 : (out ++ curveK l i m).length ≤ 9 + 8 * i := by rw [List.length_append, curveK_len]; omega
      by_cases hlt8 : m < 8
      ·
       have hd8 : decide (1 + (m : Int) ≤ 8) = true := by simp; omega
       have hcv : curveAt l i (1 + m) = ⟨atV ((1 + m : Nat) : Int) (rd_T101 l ((i : Nat) : Int)).f0.f0 (rd_T101 l ((j1 : Nat) : Int)).f0.f0 (rd_T101 l ((j2 : Nat) : Int)).f0.f0, atV ((1 + m : Nat) : Int) (rd_T101 l ((i : Nat) : Int)).f0.f1 (rd_T101 l ((j1 : Nat) : Int)).f0.f1 (rd_T101 l ((j2 : Nat) : Int)).f0.f1⟩ := by unfold curveAt; rw [hJ.out.1, hJ.out.2]
       have hks := curveK_succ l i m
       rw [hcv] at hks
       have HKS := Lib.hid hks
       clear hks hcv
       obtain ⟨o2, ho2⟩ : ∃ o2, out ++ curveK l i m = o2 := ⟨_, rfl⟩
       rw [ho2] at HO hlen2
       have HO2 := Lib.hid ho2
       clear ho2
       obtain ⟨Ao2, co2, hv3⟩ := Kd.R_slice HO
       subst hv3
       have hRow25 : ∀ {W2 : World}, Blks [(gA, .cells #[.int .i64 (rd_T101 l ((i : Nat) : Int)).f0.f0, .int .i64 (rd_T101 l ((i : Nat) : Int)).f0.f1, .bool (rd_T101 l ((i : Nat) : Int)).f1] 101 (0, 0)), (gC, .cells #[.int .i64 (rd_T101 l ((j1 : Nat) : Int)).f0.f0, .int .i64 (rd_T101 l ((j1 : Nat) : Int)).f0.f1, .bool (rd_T101 l ((j1 : Nat) : Int)).f1] 101 (0, 0)), (gB, .cells #[.int .i64 (rd_T101 l ((j2 : Nat) : Int)).f0.f0, .int .i64 (rd_T101 l ((j2 : Nat) : Int)).f0.f1, .bool (rd_T101 l ((j2 : Nat) : Int)).f1] 101 (0, 0))] W2 → Kd.R k52 52 W2 w.heap.size (Own1 (.slice Ao2 o2.length co2)) (.slice Ao2 o2.length co2) o2 → ∀ b, b ∈ ([gA, gC, gB] : List Nat) → (Value.slice Ao2 o2.length co2).ownBlock = some b → False := fun hb ho => row_apart hb (by simp) ho
       have HHO := Lib.hid HO
       have HHB := Lib.hid HB
       have HHW := Lib.hid HW
       clear HO HB HW
       go_wp2
       have HO := HHO.out
       have HB := HHB.out
       have HW := HHW.out
       clear HHO HHB HHW
       refine Go.Proofs.YtbmklpcheopgoaaReg.reg_inv (by rfl) [0, 1, 2, 3, 4, 5, 6, 7, 8, 9, 10, 11, 12, 13, 14, 15, 16, 17, 18, 19, 20, 21, 22, 23, 24, 25, 26] (by kernel_rfl) (by kernel_rfl)
        (fun lst a W' => ∃ d : RowReg11, lst = #[d.b0, d.b1, d.b2, d.b3, d.b4, d.b5, d.b6, d.b7, d.b8, d.b9, d.b10, d.b11, d.b12, d.b13, d.b14, d.b15, d.b16, d.b17, d.b18, d.b19, d.b20, d.b21, d.b22, d.b23, d.b24, d.b25, d.b26] ∧ a = ⟨#[.slice (some ad) l.length c0, undef, .slice none 0 0, (cond d.b26 d.V1 (.slice Ao2 o2.length co2)), .int .i64 i, .pointer (some ⟨gA, 0, none⟩), .pointer (some ⟨gC, 0, none⟩), .pointer (some ⟨gB, 0, none⟩), .int .i64 (((1 + m : Nat) : Int)), .slice (some ad) l.length c0, .pointer (some ad), .pointer (some ad), .agg #[.int .i64 (rd_T101 l 0).f0.f0, .int .i64 (rd_T101 l 0).f0.f1], .slice (some ⟨w.heap.size, 0, none⟩) 1 1, .int .i64 i, .slice (some ad) l.length c0, .int .i64 l.length, .bool true, u18, u19, .slice (some ad) l.length c0, .int .i64 i, .pointer (some (ad.add (i * 3))), .agg #[.int .i64 (rd_T101 l ((i : Nat) : Int)).f0.f0, .int .i64 (rd_T101 l ((i : Nat) : Int)).f0.f1, .bool (rd_T101 l ((i : Nat) : Int)).f1], .slice (some ad) l.length c0, .int .i64 i, .int .i64 ((i : Int) + 1), .slice (some ad) l.length c0, .int .i64 l.length, .int .i64 j1, .pointer (some (ad.add (j1 * 3))), .agg #[.int .i64 (rd_T101 l ((j1 : Nat) : Int)).f0.f0, .int .i64 (rd_T101 l ((j1 : Nat) : Int)).f0.f1, .bool false], .slice (some ad) l.length c0, .int .i64 i, .int .i64 ((i : Int) + 2), .slice (some ad) l.length c0, .int .i64 l.length, .int .i64 j2, .pointer (some (ad.add (j2 * 3))), .agg #[.int .i64 (rd_T101 l ((j2 : Nat) : Int)).f0.f0, .int .i64 (rd_T101 l ((j2 : Nat) : Int)).f0.f1, .bool (rd_T101 l ((j2 : Nat) : Int)).f1], .pointer (some ⟨gC, 2, none⟩), .bool false, u42, u43, u44, u45, u46, .int .i64 (((1 + m : Nat) : Int)), .bool true, u49, u50, (cond d.b0 (.slice Ao2 o2.length co2) u51), (cond d.b1 (.int .i64 (((1 + m : Nat) : Int))) u52), (cond d.b2 (.pointer (some ⟨gA, 0, none⟩)) u53), (cond d.b3 (.pointer (some ⟨gA, 0, none⟩)) u54), (cond d.b4 (.int .i64 ((rd_T101 l ((i : Nat) : Int)).f0.f0)) u55), (cond d.b5 (.pointer (some ⟨gC, 0, none⟩)) u56), (cond d.b6 (.pointer (some ⟨gC, 0, none⟩)) u57), (cond d.b7 (.int .i64 ((rd_T101 l ((j1 : Nat) : Int)).f0.f0)) u58), (cond d.b8 (.pointer (some ⟨gB, 0, none⟩)) u59), (cond d.b9 (.pointer (some ⟨gB, 0, none⟩)) u60), (cond d.b10 (.int .i64 ((rd_T101 l ((j2 : Nat) : Int)).f0.f0)) u61), (cond d.b11 (.int .i64 ((atV ((1 + m : Nat) : Int) (rd_T101 l ((i : Nat) : Int)).f0.f0 (rd_T101 l ((j1 : Nat) : Int)).f0.f0 (rd_T101 l ((j2 : Nat) : Int)).f0.f0))) u62), (cond d.b12 (.int .i64 (((1 + m : Nat) : Int))) u63), (cond d.b13 (.pointer (some ⟨gA, 0, none⟩)) u64), (cond d.b14 (.pointer (some ⟨gA, 1, none⟩)) u65), (cond d.b15 (.int .i64 ((rd_T101 l ((i : Nat) : Int)).f0.f1)) u66), (cond d.b16 (.pointer (some ⟨gC, 0, none⟩)) u67), (cond d.b17 (.pointer (some ⟨gC, 1, none⟩)) u68), (cond d.b18 (.int .i64 ((rd_T101 l ((j1 : Nat) : Int)).f0.f1)) u69), (cond d.b19 (.pointer (some ⟨gB, 0, none⟩)) u70), (cond d.b20 (.pointer (some ⟨gB, 1, none⟩)) u71), (cond d.b21 (.int .i64 ((rd_T101 l ((j2 : Nat) : Int)).f0.f1)) u72), (cond d.b22 (.int .i64 ((atV ((1 + m : Nat) : Int) (rd_T101 l ((i : Nat) : Int)).f0.f1 (rd_T101 l ((j1 : Nat) : Int)).f0.f1 (rd_T101 l ((j2 : Nat) : Int)).f0.f1))) u73), (cond d.b23 (.agg #[.int .i64 ((atV ((1 + m : Nat) : Int) (rd_T101 l ((i : Nat) : Int)).f0.f0 (rd_T101 l ((j1 : Nat) : Int)).f0.f0 (rd_T101 l ((j2 : Nat) : Int)).f0.f0)), .int .i64 ((atV ((1 + m : Nat) : Int) (rd_T101 l ((i : Nat) : Int)).f0.f1 (rd_T101 l ((j1 : Nat) : Int)).f0.f1 (rd_T101 l ((j2 : Nat) : Int)).f0.f1))]) u74), (cond d.b24 (.slice (some ⟨d.gH, 0, none⟩) 1 1) u75), (cond d.b25 d.V1 u76), u77, u78, undef, undef, undef, undef, undef], []⟩ ∧ (d.b25 = true → d.b24 = true) ∧ (d.b26 = true → d.b0 = true) ∧ (d.b26 = true → d.b25 = true) ∧ (Blks [(gA, .cells #[.int .i64 (rd_T101 l ((i : Nat) : Int)).f0.f0, .int .i64 (rd_T101 l ((i : Nat) : Int)).f0.f1, .bool (rd_T101 l ((i : Nat) : Int)).f1] 101 (0, 0)), (gC, .cells #[.int .i64 (rd_T101 l ((j1 : Nat) : Int)).f0.f0, .int .i64 (rd_T101 l ((j1 : Nat) : Int)).f0.f1, .bool (rd_T101 l ((j1 : Nat) : Int)).f1] 101 (0, 0)), (gB, .cells #[.int .i64 (rd_T101 l ((j2 : Nat) : Int)).f0.f0, .int .i64 (rd_T101 l ((j2 : Nat) : Int)).f0.f1, .bool (rd_T101 l ((j2 : Nat) : Int)).f1] 101 (0, 0))] W') ∧ (Kd.R k52 52 W' w.heap.size (Own1 (cond d.b25 d.V1 (.slice Ao2 o2.length co2))) (cond d.b25 d.V1 (.slice Ao2 o2.length co2)) (cond d.b25 (o2 ++ [⟨(atV ((1 + m : Nat) : Int) (rd_T101 l ((i : Nat) : Int)).f0.f0 (rd_T101 l ((j1 : Nat) : Int)).f0.f0 (rd_T101 l ((j2 : Nat) : Int)).f0.f0), (atV ((1 + m : Nat) : Int) (rd_T101 l ((i : Nat) : Int)).f0.f1 (rd_T101 l ((j1 : Nat) : Int)).f0.f1 (rd_T101 l ((j2 : Nat) : Int)).f0.f1)⟩]) o2)) ∧ (d.b24 = true → d.b25 = false → W'.heap[d.gH]? = some (.cells #[.int .i64 ((atV ((1 + m : Nat) : Int) (rd_T101 l ((i : Nat) : Int)).f0.f0 (rd_T101 l ((j1 : Nat) : Int)).f0.f0 (rd_T101 l ((j2 : Nat) : Int)).f0.f0)), .int .i64 ((atV ((1 + m : Nat) : Int) (rd_T101 l ((i : Nat) : Int)).f0.f1 (rd_T101 l ((j1 : Nat) : Int)).f0.f1 (rd_T101 l ((j2 : Nat) : Int)).f0.f1))] 52 (0, 0))) ∧ (Below w.heap.size w W')) ?_ ?_ ?_ ?_
       ·
        rintro lst a W' ⟨d, rfl, _⟩
        rfl
       ·
        exact ⟨⟨false, false, false, false, false, false, false, false, false, false, false, false, false, false, false, false, false, false, false, false, false, false, false, false, false, false, false, 0, undef⟩, rfl, rfl, (fun h => Bool.noConfusion h), (fun h => Bool.noConfusion h), (fun h => Bool.noConfusion h), HB.drew, (R_chg HO ((Chg.refl (fun _ => False) _).drew) (fun _ _ => id)), (fun h => Bool.noConfusion h), (below_drew HW)⟩
       ·
        rintro lst a W' i o ⟨⟨b0, b1, b2, b3, b4, b5, b6, b7, b8, b9, b10, b11, b12, b13, b14, b15, b16, b17, b18, b19, b20, b21, b22, b23, b24, b25, b26, gH, V1⟩, rfl, rfl, k0, k1, k2, hHB, hHO, hHX, hHW⟩ ho hf hd K hK
        dsimp only at k0 k1 k2 hHB hHO hHX hHW
        have hi : i < 27 := (Array.getElem?_eq_some_iff.1 ho).1
        have ho2 := ho
        rcases (show i = 0 ∨ i = 1 ∨ i = 2 ∨ i = 3 ∨ i = 4 ∨ i = 5 ∨ i = 6 ∨ i = 7 ∨ i = 8 ∨ i = 9 ∨ i = 10 ∨ i = 11 ∨ i = 12 ∨ i = 13 ∨ i = 14 ∨ i = 15 ∨ i = 16 ∨ i = 17 ∨ i = 18 ∨ i = 19 ∨ i = 20 ∨ i = 21 ∨ i = 22 ∨ i = 23 ∨ i = 24 ∨ i = 25 ∨ i = 26 by omega) with rfl | rfl | rfl | rfl | rfl | rfl | rfl | rfl | rfl | rfl | rfl | rfl | rfl | rfl | rfl | rfl | rfl | rfl | rfl | rfl | rfl | rfl | rfl | rfl | rfl | rfl | rfl
        ·
         simp only [List.getElem?_toArray, List.getElem?_cons_succ, List.getElem?_cons_zero, Option.some.injEq] at ho
         subst ho
         replace hf : b0 = false := hf
         have n26 : b26 = false := Bool.eq_false_iff.mpr (fun h => absurd (k1 h) (by rw [hf]; decide))
         subst n26
         subst hf
         refine Go.Proofs.YtbmklpcheopgoaaReg.op_val ho2 rfl (v := .slice Ao2 o2.length co2) (w1 := W') ?_ (hK _ _ ⟨⟨true, b1, b2, b3, b4, b5, b6, b7, b8, b9, b10, b11, b12, b13, b14, b15, b16, b17, b18, b19, b20, b21, b22, b23, b24, b25, false, gH, V1⟩, rfl, rfl, (k0), (fun _ => rfl), (fun h => Bool.noConfusion h), hHB, hHO, hHX, hHW⟩)
         simp [go_sem, hu, hu2]
        ·
         simp only [List.getElem?_toArray, List.getElem?_cons_succ, List.getElem?_cons_zero, Option.some.injEq] at ho
         subst ho
         replace hf : b1 = false := hf
         subst hf
         refine Go.Proofs.YtbmklpcheopgoaaReg.op_val ho2 rfl (v := .int .i64 (((1 + m : Nat) : Int))) (w1 := W') ?_ (hK _ _ ⟨⟨b0, true, b2, b3, b4, b5, b6, b7, b8, b9, b10, b11, b12, b13, b14, b15, b16, b17, b18, b19, b20, b21, b22, b23, b24, b25, b26, gH, V1⟩, rfl, rfl, (k0), (k1), (k2), hHB, hHO, hHX, hHW⟩)
         simp [go_sem, hu, hu2]
        ·
         simp only [List.getElem?_toArray, List.getElem?_cons_succ, List.getElem?_cons_zero, Option.some.injEq] at ho
         subst ho
         replace hf : b2 = false := hf
         subst hf
         refine Go.Proofs.YtbmklpcheopgoaaReg.op_val ho2 rfl (v := .pointer (some ⟨gA, 0, none⟩)) (w1 := W') ?_ (hK _ _ ⟨⟨b0, b1, true, b3, b4, b5, b6, b7, b8, b9, b10, b11, b12, b13, b14, b15, b16, b17, b18, b19, b20, b21, b22, b23, b24, b25, b26, gH, V1⟩, rfl, rfl, (k0), (k1), (k2), hHB, hHO, hHX, hHW⟩)
         simp [go_sem, hu, hu2]
        ·
         simp only [List.getElem?_toArray, List.getElem?_cons_succ, List.getElem?_cons_zero, Option.some.injEq] at ho
         subst ho
         replace hf : b3 = false := hf
         have d2 : b2 = true := hd ⟨2, .data⟩ (by simp) rfl
         subst d2
         subst hf
         refine Go.Proofs.YtbmklpcheopgoaaReg.op_val ho2 rfl (v := .pointer (some ⟨gA, 0, none⟩)) (w1 := W') ?_ (hK _ _ ⟨⟨b0, b1, true, true, b4, b5, b6, b7, b8, b9, b10, b11, b12, b13, b14, b15, b16, b17, b18, b19, b20, b21, b22, b23, b24, b25, b26, gH, V1⟩, rfl, rfl, (k0), (k1), (k2), hHB, hHO, hHX, hHW⟩)
         simp [go_sem, hu, hu2]
        ·
         simp only [List.getElem?_toArray, List.getElem?_cons_succ, List.getElem?_cons_zero, Option.some.injEq] at ho
         subst ho
         replace hf : b4 = false := hf
         have d3 : b3 = true := hd ⟨3, .data⟩ (by simp) rfl
         subst d3
         subst hf
         refine Go.Proofs.YtbmklpcheopgoaaReg.op_val ho2 rfl (v := .int .i64 ((rd_T101 l ((i : Nat) : Int)).f0.f0)) (w1 := W') ?_ (hK _ _ ⟨⟨b0, b1, b2, true, true, b5, b6, b7, b8, b9, b10, b11, b12, b13, b14, b15, b16, b17, b18, b19, b20, b21, b22, b23, b24, b25, b26, gH, V1⟩, rfl, rfl, (k0), (k1), (k2), hHB, hHO, hHX, hHW⟩)
         simp [go_sem, hu, hu2, (Blks.cell hHB 0 rfl 0)]
        ·
         simp only [List.getElem?_toArray, List.getElem?_cons_succ, List.getElem?_cons_zero, Option.some.injEq] at ho
         subst ho
         replace hf : b5 = false := hf
         subst hf
         refine Go.Proofs.YtbmklpcheopgoaaReg.op_val ho2 rfl (v := .pointer (some ⟨gC, 0, none⟩)) (w1 := W') ?_ (hK _ _ ⟨⟨b0, b1, b2, b3, b4, true, b6, b7, b8, b9, b10, b11, b12, b13, b14, b15, b16, b17, b18, b19, b20, b21, b22, b23, b24, b25, b26, gH, V1⟩, rfl, rfl, (k0), (k1), (k2), hHB, hHO, hHX, hHW⟩)
         simp [go_sem, hu, hu2]
        ·
         simp only [List.getElem?_toArray, List.getElem?_cons_succ, List.getElem?_cons_zero, Option.some.injEq] at ho
         subst ho
         replace hf : b6 = false := hf
         have d5 : b5 = true := hd ⟨5, .data⟩ (by simp) rfl
         subst d5
         subst hf
         refine Go.Proofs.YtbmklpcheopgoaaReg.op_val ho2 rfl (v := .pointer (some ⟨gC, 0, none⟩)) (w1 := W') ?_ (hK _ _ ⟨⟨b0, b1, b2, b3, b4, true, true, b7, b8, b9, b10, b11, b12, b13, b14, b15, b16, b17, b18, b19, b20, b21, b22, b23, b24, b25, b26, gH, V1⟩, rfl, rfl, (k0), (k1), (k2), hHB, hHO, hHX, hHW⟩)
         simp [go_sem, hu, hu2]
        ·
         simp only [List.getElem?_toArray, List.getElem?_cons_succ, List.getElem?_cons_zero, Option.some.injEq] at ho
         subst ho
         replace hf : b7 = false := hf
         have d6 : b6 = true := hd ⟨6, .data⟩ (by simp) rfl
         subst d6
         subst hf
         refine Go.Proofs.YtbmklpcheopgoaaReg.op_val ho2 rfl (v := .int .i64 ((rd_T101 l ((j1 : Nat) : Int)).f0.f0)) (w1 := W') ?_ (hK _ _ ⟨⟨b0, b1, b2, b3, b4, b5, true, true, b8, b9, b10, b11, b12, b13, b14, b15, b16, b17, b18, b19, b20, b21, b22, b23, b24, b25, b26, gH, V1⟩, rfl, rfl, (k0), (k1), (k2), hHB, hHO, hHX, hHW⟩)
         simp [go_sem, hu, hu2, (Blks.cell hHB 1 rfl 0)]
        ·
         simp only [List.getElem?_toArray, List.getElem?_cons_succ, List.getElem?_cons_zero, Option.some.injEq] at ho
         subst ho
         replace hf : b8 = false := hf
         subst hf
         refine Go.Proofs.YtbmklpcheopgoaaReg.op_val ho2 rfl (v := .pointer (some ⟨gB, 0, none⟩)) (w1 := W') ?_ (hK _ _ ⟨⟨b0, b1, b2, b3, b4, b5, b6, b7, true, b9, b10, b11, b12, b13, b14, b15, b16, b17, b18, b19, b20, b21, b22, b23, b24, b25, b26, gH, V1⟩, rfl, rfl, (k0), (k1), (k2), hHB, hHO, hHX, hHW⟩)
         simp [go_sem, hu, hu2]
        ·
         simp only [List.getElem?_toArray, List.getElem?_cons_succ, List.getElem?_cons_zero, Option.some.injEq] at ho
         subst ho
         replace hf : b9 = false := hf
         have d8 : b8 = true := hd ⟨8, .data⟩ (by simp) rfl
         subst d8
         subst hf
         refine Go.Proofs.YtbmklpcheopgoaaReg.op_val ho2 rfl (v := .pointer (some ⟨gB, 0, none⟩)) (w1 := W') ?_ (hK _ _ ⟨⟨b0, b1, b2, b3, b4, b5, b6, b7, true, true, b10, b11, b12, b13, b14, b15, b16, b17, b18, b19, b20, b21, b22, b23, b24, b25, b26, gH, V1⟩, rfl, rfl, (k0), (k1), (k2), hHB, hHO, hHX, hHW⟩)
         simp [go_sem, hu, hu2]
        ·
         simp only [List.getElem?_toArray, List.getElem?_cons_succ, List.getElem?_cons_zero, Option.some.injEq] at ho
         subst ho
         replace hf : b10 = false := hf
         have d9 : b9 = true := hd ⟨9, .data⟩ (by simp) rfl
         subst d9
         subst hf
         refine Go.Proofs.YtbmklpcheopgoaaReg.op_val ho2 rfl (v := .int .i64 ((rd_T101 l ((j2 : Nat) : Int)).f0.f0)) (w1 := W') ?_ (hK _ _ ⟨⟨b0, b1, b2, b3, b4, b5, b6, b7, b8, true, true, b11, b12, b13, b14, b15, b16, b17, b18, b19, b20, b21, b22, b23, b24, b25, b26, gH, V1⟩, rfl, rfl, (k0), (k1), (k2), hHB, hHO, hHX, hHW⟩)
         simp [go_sem, hu, hu2, (Blks.cell hHB 2 rfl 0)]
        ·
         simp only [List.getElem?_toArray, List.getElem?_cons_succ, List.getElem?_cons_zero, Option.some.injEq] at ho
         subst ho
         replace hf : b11 = false := hf
         have d1 : b1 = true := hd ⟨1, .data⟩ (by simp) rfl
         have d4 : b4 = true := hd ⟨4, .data⟩ (by simp) rfl
         have d7 : b7 = true := hd ⟨7, .data⟩ (by simp) rfl
         have d10 : b10 = true := hd ⟨10, .data⟩ (by simp) rfl
         subst d1
         subst d4
         subst d7
         subst d10
         subst hf
         refine Go.Proofs.YtbmklpcheopgoaaReg.op_wp ho2 rfl (op_call Try.func56 (by kernel_rfl) rfl #[.int .i64 (((1 + m : Nat) : Int)), .int .i64 ((rd_T101 l ((i : Nat) : Int)).f0.f0), .int .i64 ((rd_T101 l ((j1 : Nat) : Int)).f0.f0), .int .i64 ((rd_T101 l ((j2 : Nat) : Int)).f0.f0)] rfl (by simp only [List.map_toArray, List.map_cons, List.map_nil]; rfl) ?_)
         refine (outline_at.calls _ _ _ _ _ W' (atV_f _ _ _ _)).mono ?_
         rintro e1 W2 ⟨rfl, ⟨nd, rfl⟩⟩
         exact ⟨_, rfl, (hK _ _ ⟨⟨b0, true, b2, b3, true, b5, b6, true, b8, b9, true, true, b12, b13, b14, b15, b16, b17, b18, b19, b20, b21, b22, b23, b24, b25, b26, gH, V1⟩, rfl, rfl, (k0), (k1), (k2), (hHB.drewN nd), (R_chg hHO ((Chg.refl (fun _ => False) _).drewN nd) (fun _ _ => id)), (fun h1 h2 => kN (hHX h1 h2) nd), (bN hHW nd)⟩)⟩
        ·
         simp only [List.getElem?_toArray, List.getElem?_cons_succ, List.getElem?_cons_zero, Option.some.injEq] at ho
         subst ho
         replace hf : b12 = false := hf
         subst hf
         refine Go.Proofs.YtbmklpcheopgoaaReg.op_val ho2 rfl (v := .int .i64 (((1 + m : Nat) : Int))) (w1 := W') ?_ (hK _ _ ⟨⟨b0, b1, b2, b3, b4, b5, b6, b7, b8, b9, b10, b11, true, b13, b14, b15, b16, b17, b18, b19, b20, b21, b22, b23, b24, b25, b26, gH, V1⟩, rfl, rfl, (k0), (k1), (k2), hHB, hHO, hHX, hHW⟩)
         simp [go_sem, hu, hu2]
        ·
         simp only [List.getElem?_toArray, List.getElem?_cons_succ, List.getElem?_cons_zero, Option.some.injEq] at ho
         subst ho
         replace hf : b13 = false := hf
         subst hf
         refine Go.Proofs.YtbmklpcheopgoaaReg.op_val ho2 rfl (v := .pointer (some ⟨gA, 0, none⟩)) (w1 := W') ?_ (hK _ _ ⟨⟨b0, b1, b2, b3, b4, b5, b6, b7, b8, b9, b10, b11, b12, true, b14, b15, b16, b17, b18, b19, b20, b21, b22, b23, b24, b25, b26, gH, V1⟩, rfl, rfl, (k0), (k1), (k2), hHB, hHO, hHX, hHW⟩)
         simp [go_sem, hu, hu2]
        ·
         simp only [List.getElem?_toArray, List.getElem?_cons_succ, List.getElem?_cons_zero, Option.some.injEq] at ho
         subst ho
         replace hf : b14 = false := hf
         have d13 : b13 = true := hd ⟨13, .data⟩ (by simp) rfl
         subst d13
         subst hf
         refine Go.Proofs.YtbmklpcheopgoaaReg.op_val ho2 rfl (v := .pointer (some ⟨gA, 1, none⟩)) (w1 := W') ?_ (hK _ _ ⟨⟨b0, b1, b2, b3, b4, b5, b6, b7, b8, b9, b10, b11, b12, true, true, b15, b16, b17, b18, b19, b20, b21, b22, b23, b24, b25, b26, gH, V1⟩, rfl, rfl, (k0), (k1), (k2), hHB, hHO, hHX, hHW⟩)
         simp [go_sem, hu, hu2]
        ·
         simp only [List.getElem?_toArray, List.getElem?_cons_succ, List.getElem?_cons_zero, Option.some.injEq] at ho
         subst ho
         replace hf : b15 = false := hf
         have d14 : b14 = true := hd ⟨14, .data⟩ (by simp) rfl
         subst d14
         subst hf
         refine Go.Proofs.YtbmklpcheopgoaaReg.op_val ho2 rfl (v := .int .i64 ((rd_T101 l ((i : Nat) : Int)).f0.f1)) (w1 := W') ?_ (hK _ _ ⟨⟨b0, b1, b2, b3, b4, b5, b6, b7, b8, b9, b10, b11, b12, b13, true, true, b16, b17, b18, b19, b20, b21, b22, b23, b24, b25, b26, gH, V1⟩, rfl, rfl, (k0), (k1), (k2), hHB, hHO, hHX, hHW⟩)
         simp [go_sem, hu, hu2, (Blks.cell hHB 0 rfl 1)]
        ·
         simp only [List.getElem?_toArray, List.getElem?_cons_succ, List.getElem?_cons_zero, Option.some.injEq] at ho
         subst ho
         replace hf : b16 = false := hf
         subst hf
         refine Go.Proofs.YtbmklpcheopgoaaReg.op_val ho2 rfl (v := .pointer (some ⟨gC, 0, none⟩)) (w1 := W') ?_ (hK _ _ ⟨⟨b0, b1, b2, b3, b4, b5, b6, b7, b8, b9, b10, b11, b12, b13, b14, b15, true, b17, b18, b19, b20, b21, b22, b23, b24, b25, b26, gH, V1⟩, rfl, rfl, (k0), (k1), (k2), hHB, hHO, hHX, hHW⟩)
         simp [go_sem, hu, hu2]
        ·
         simp only [List.getElem?_toArray, List.getElem?_cons_succ, List.getElem?_cons_zero, Option.some.injEq] at ho
         subst ho
         replace hf : b17 = false := hf
         have d16 : b16 = true := hd ⟨16, .data⟩ (by simp) rfl
         subst d16
         subst hf
         refine Go.Proofs.YtbmklpcheopgoaaReg.op_val ho2 rfl (v := .pointer (some ⟨gC, 1, none⟩)) (w1 := W') ?_ (hK _ _ ⟨⟨b0, b1, b2, b3, b4, b5, b6, b7, b8, b9, b10, b11, b12, b13, b14, b15, true, true, b18, b19, b20, b21, b22, b23, b24, b25, b26, gH, V1⟩, rfl, rfl, (k0), (k1), (k2), hHB, hHO, hHX, hHW⟩)
         simp [go_sem, hu, hu2]
        ·
         simp only [List.getElem?_toArray, List.getElem?_cons_succ, List.getElem?_cons_zero, Option.some.injEq] at ho
         subst ho
         replace hf : b18 = false := hf
         have d17 : b17 = true := hd ⟨17, .data⟩ (by simp) rfl
         subst d17
         subst hf
         refine Go.Proofs.YtbmklpcheopgoaaReg.op_val ho2 rfl (v := .int .i64 ((rd_T101 l ((j1 : Nat) : Int)).f0.f1)) (w1 := W') ?_ (hK _ _ ⟨⟨b0, b1, b2, b3, b4, b5, b6, b7, b8, b9, b10, b11, b12, b13, b14, b15, b16, true, true, b19, b20, b21, b22, b23, b24, b25, b26, gH, V1⟩, rfl, rfl, (k0), (k1), (k2), hHB, hHO, hHX, hHW⟩)
         simp [go_sem, hu, hu2, (Blks.cell hHB 1 rfl 1)]
        ·
         simp only [List.getElem?_toArray, List.getElem?_cons_succ, List.getElem?_cons_zero, Option.some.injEq] at ho
         subst ho
         replace hf : b19 = false := hf
         subst hf
         refine Go.Proofs.YtbmklpcheopgoaaReg.op_val ho2 rfl (v := .pointer (some ⟨gB, 0, none⟩)) (w1 := W') ?_ (hK _ _ ⟨⟨b0, b1, b2, b3, b4, b5, b6, b7, b8, b9, b10, b11, b12, b13, b14, b15, b16, b17, b18, true, b20, b21, b22, b23, b24, b25, b26, gH, V1⟩, rfl, rfl, (k0), (k1), (k2), hHB, hHO, hHX, hHW⟩)
         simp [go_sem, hu, hu2]
        ·
         simp only [List.getElem?_toArray, List.getElem?_cons_succ, List.getElem?_cons_zero, Option.some.injEq] at ho
         subst ho
         replace hf : b20 = false := hf
         have d19 : b19 = true := hd ⟨19, .data⟩ (by simp) rfl
         subst d19
         subst hf
         refine Go.Proofs.YtbmklpcheopgoaaReg.op_val ho2 rfl (v := .pointer (some ⟨gB, 1, none⟩)) (w1 := W') ?_ (hK _ _ ⟨⟨b0, b1, b2, b3, b4, b5, b6, b7, b8, b9, b10, b11, b12, b13, b14, b15, b16, b17, b18, true, true, b21, b22, b23, b24, b25, b26, gH, V1⟩, rfl, rfl, (k0), (k1), (k2), hHB, hHO, hHX, hHW⟩)
         simp [go_sem, hu, hu2]
        ·
         simp only [List.getElem?_toArray, List.getElem?_cons_succ, List.getElem?_cons_zero, Option.some.injEq] at ho
         subst ho
         replace hf : b21 = false := hf
         have d20 : b20 = true := hd ⟨20, .data⟩ (by simp) rfl
         subst d20
         subst hf
         refine Go.Proofs.YtbmklpcheopgoaaReg.op_val ho2 rfl (v := .int .i64 ((rd_T101 l ((j2 : Nat) : Int)).f0.f1)) (w1 := W') ?_ (hK _ _ ⟨⟨b0, b1, b2, b3, b4, b5, b6, b7, b8, b9, b10, b11, b12, b13, b14, b15, b16, b17, b18, b19, true, true, b22, b23, b24, b25, b26, gH, V1⟩, rfl, rfl, (k0), (k1), (k2), hHB, hHO, hHX, hHW⟩)
         simp [go_sem, hu, hu2, (Blks.cell hHB 2 rfl 1)]
        ·
         simp only [List.getElem?_toArray, List.getElem?_cons_succ, List.getElem?_cons_zero, Option.some.injEq] at ho
         subst ho
         replace hf : b22 = false := hf
         have d11 : b11 = true := hd ⟨11, .chain⟩ (by simp) rfl
         have d12 : b12 = true := hd ⟨12, .data⟩ (by simp) rfl
         have d15 : b15 = true := hd ⟨15, .data⟩ (by simp) rfl
         have d18 : b18 = true := hd ⟨18, .data⟩ (by simp) rfl
         have d21 : b21 = true := hd ⟨21, .data⟩ (by simp) rfl
         subst d11
         subst d12
         subst d15
         subst d18
         subst d21
         subst hf
         refine Go.Proofs.YtbmklpcheopgoaaReg.op_wp ho2 rfl (op_call Try.func56 (by kernel_rfl) rfl #[.int .i64 (((1 + m : Nat) : Int)), .int .i64 ((rd_T101 l ((i : Nat) : Int)).f0.f1), .int .i64 ((rd_T101 l ((j1 : Nat) : Int)).f0.f1), .int .i64 ((rd_T101 l ((j2 : Nat) : Int)).f0.f1)] rfl (by simp only [List.map_toArray, List.map_cons, List.map_nil]; rfl) ?_)
         refine (outline_at.calls _ _ _ _ _ W' (atV_f _ _ _ _)).mono ?_
         rintro e1 W2 ⟨rfl, ⟨nd, rfl⟩⟩
         exact ⟨_, rfl, (hK _ _ ⟨⟨b0, b1, b2, b3, b4, b5, b6, b7, b8, b9, b10, true, true, b13, b14, true, b16, b17, true, b19, b20, true, true, b23, b24, b25, b26, gH, V1⟩, rfl, rfl, (k0), (k1), (k2), (hHB.drewN nd), (R_chg hHO ((Chg.refl (fun _ => False) _).drewN nd) (fun _ _ => id)), (fun h1 h2 => kN (hHX h1 h2) nd), (bN hHW nd)⟩)⟩
        ·
         simp only [List.getElem?_toArray, List.getElem?_cons_succ, List.getElem?_cons_zero, Option.some.injEq] at ho
         subst ho
         replace hf : b23 = false := hf
         have d11 : b11 = true := hd ⟨11, .data⟩ (by simp) rfl
         have d22 : b22 = true := hd ⟨22, .data⟩ (by simp) rfl
         subst d11
         subst d22
         subst hf
         refine Go.Proofs.YtbmklpcheopgoaaReg.op_val ho2 rfl (v := .agg #[.int .i64 ((atV ((1 + m : Nat) : Int) (rd_T101 l ((i : Nat) : Int)).f0.f0 (rd_T101 l ((j1 : Nat) : Int)).f0.f0 (rd_T101 l ((j2 : Nat) : Int)).f0.f0)), .int .i64 ((atV ((1 + m : Nat) : Int) (rd_T101 l ((i : Nat) : Int)).f0.f1 (rd_T101 l ((j1 : Nat) : Int)).f0.f1 (rd_T101 l ((j2 : Nat) : Int)).f0.f1))]) (w1 := W') ?_ (hK _ _ ⟨⟨b0, b1, b2, b3, b4, b5, b6, b7, b8, b9, b10, true, b12, b13, b14, b15, b16, b17, b18, b19, b20, b21, true, true, b24, b25, b26, gH, V1⟩, rfl, rfl, (k0), (k1), (k2), hHB, hHO, hHX, hHW⟩)
         simp [go_sem, hu, hu2]
        ·
         simp only [List.getElem?_toArray, List.getElem?_cons_succ, List.getElem?_cons_zero, Option.some.injEq] at ho
         subst ho
         replace hf : b24 = false := hf
         have d23 : b23 = true := hd ⟨23, .data⟩ (by simp) rfl
         subst d23
         have n25 : b25 = false := Bool.eq_false_iff.mpr (fun h => absurd (k0 h) (by rw [hf]; decide))
         have n26 : b26 = false := Bool.eq_false_iff.mpr (fun h => absurd (k2 h) (by rw [n25]; decide))
         subst n25
         subst n26
         subst hf
         refine Go.Proofs.YtbmklpcheopgoaaReg.op_val ho2 rfl (v := .slice (some ⟨(W'.heap.size), 0, none⟩) 1 1) (w1 := W'.alloc (.cells #[.int .i64 ((atV ((1 + m : Nat) : Int) (rd_T101 l ((i : Nat) : Int)).f0.f0 (rd_T101 l ((j1 : Nat) : Int)).f0.f0 (rd_T101 l ((j2 : Nat) : Int)).f0.f0)), .int .i64 ((atV ((1 + m : Nat) : Int) (rd_T101 l ((i : Nat) : Int)).f0.f1 (rd_T101 l ((j1 : Nat) : Int)).f0.f1 (rd_T101 l ((j2 : Nat) : Int)).f0.f1))] 52)) ?_ (hK _ _ ⟨⟨b0, b1, b2, b3, b4, b5, b6, b7, b8, b9, b10, b11, b12, b13, b14, b15, b16, b17, b18, b19, b20, b21, b22, true, true, false, false, W'.heap.size, V1⟩, rfl, rfl, (fun _ => rfl), (fun h => Bool.noConfusion h), (fun h => Bool.noConfusion h), (hHB.alloc _).tail, (R_chg hHO ((Chg.refl (fun _ => False) _).alloc _) (fun _ _ => id)), (fun _ _ => blk_new W' (.cells #[.int .i64 ((atV ((1 + m : Nat) : Int) (rd_T101 l ((i : Nat) : Int)).f0.f0 (rd_T101 l ((j1 : Nat) : Int)).f0.f0 (rd_T101 l ((j2 : Nat) : Int)).f0.f0)), .int .i64 ((atV ((1 + m : Nat) : Int) (rd_T101 l ((i : Nat) : Int)).f0.f1 (rd_T101 l ((j1 : Nat) : Int)).f0.f1 (rd_T101 l ((j2 : Nat) : Int)).f0.f1))] 52)), (hHW.alloc hHW.size _)⟩)
         simp [go_sem, hu]
        ·
         simp only [List.getElem?_toArray, List.getElem?_cons_succ, List.getElem?_cons_zero, Option.some.injEq] at ho
         subst ho
         replace hf : b25 = false := hf
         have d0 : b0 = true := hd ⟨0, .data⟩ (by simp) rfl
         have d22 : b22 = true := hd ⟨22, .chain⟩ (by simp) rfl
         have d24 : b24 = true := hd ⟨24, .data⟩ (by simp) rfl
         subst d0
         subst d22
         subst d24
         have n26 : b26 = false := Bool.eq_false_iff.mpr (fun h => absurd (k2 h) (by rw [hf]; decide))
         subst n26
         subst hf
         obtain ⟨vn, wn, hrn, hRn, hgn, hatn⟩ := run_append1 (P := Try.prog) (ty := 42) k52 w.heap.size Try.underlying42 info_pt2 rfl (by decide) (by decide) (.slice Ao2 o2.length co2) o2 ⟨(atV ((1 + m : Nat) : Int) (rd_T101 l ((i : Nat) : Int)).f0.f0 (rd_T101 l ((j1 : Nat) : Int)).f0.f0 (rd_T101 l ((j2 : Nat) : Int)).f0.f0), (atV ((1 + m : Nat) : Int) (rd_T101 l ((i : Nat) : Int)).f0.f1 (rd_T101 l ((j1 : Nat) : Int)).f0.f1 (rd_T101 l ((j2 : Nat) : Int)).f0.f1)⟩ [.int .i64 ((atV ((1 + m : Nat) : Int) (rd_T101 l ((i : Nat) : Int)).f0.f0 (rd_T101 l ((j1 : Nat) : Int)).f0.f0 (rd_T101 l ((j2 : Nat) : Int)).f0.f0)), .int .i64 ((atV ((1 + m : Nat) : Int) (rd_T101 l ((i : Nat) : Int)).f0.f1 (rd_T101 l ((j1 : Nat) : Int)).f0.f1 (rd_T101 l ((j2 : Nat) : Int)).f0.f1))] (fun _ => True) (fun _ => False) ⟨gH, 0, none⟩ 1 (fun j u hj => by rw [add_plain, blk_cell (hHX rfl rfl) j]; simpa using hj) (k52_mkM _ _ _ _) (fun _ hk => hk.elim) (fun _ _ => trivial) (R_all hHO) hHW.size (by omega)
         refine Go.Proofs.YtbmklpcheopgoaaReg.op_val ho2 rfl (v := vn) (w1 := wn) ?_ (hK _ _ ⟨⟨true, b1, b2, b3, b4, b5, b6, b7, b8, b9, b10, b11, b12, b13, b14, b15, b16, b17, b18, b19, b20, b21, true, b23, true, true, false, gH, vn⟩, rfl, rfl, (fun _ => rfl), (fun _ => rfl), (fun _ => rfl), (hHB.chg (Chg.of_grownBy hgn) (fun b hb e => hRow25 hHB hHO b hb e)), (R_own1 flat_pt2 hRn), (fun _ h => Bool.noConfusion h), (pw_below_grown hHW _ hHW.size hgn (fun k hk => Kd.R_base hHO k hk))⟩)
         exact Go.Proofs.YtbmklpcheopgoaaIt.run_app rfl rfl rfl hrn
        ·
         simp only [List.getElem?_toArray, List.getElem?_cons_succ, List.getElem?_cons_zero, Option.some.injEq] at ho
         subst ho
         replace hf : b26 = false := hf
         have d0 : b0 = true := hd ⟨0, .phase⟩ (by simp) rfl
         have d1 : b1 = true := hd ⟨1, .phase⟩ (by simp) rfl
         have d2 : b2 = true := hd ⟨2, .phase⟩ (by simp) rfl
         have d3 : b3 = true := hd ⟨3, .phase⟩ (by simp) rfl
         have d4 : b4 = true := hd ⟨4, .phase⟩ (by simp) rfl
         have d5 : b5 = true := hd ⟨5, .phase⟩ (by simp) rfl
         have d6 : b6 = true := hd ⟨6, .phase⟩ (by simp) rfl
         have d7 : b7 = true := hd ⟨7, .phase⟩ (by simp) rfl
         have d8 : b8 = true := hd ⟨8, .phase⟩ (by simp) rfl
         have d9 : b9 = true := hd ⟨9, .phase⟩ (by simp) rfl
         have d10 : b10 = true := hd ⟨10, .phase⟩ (by simp) rfl
         have d11 : b11 = true := hd ⟨11, .phase⟩ (by simp) rfl
         have d12 : b12 = true := hd ⟨12, .phase⟩ (by simp) rfl
         have d13 : b13 = true := hd ⟨13, .phase⟩ (by simp) rfl
         have d14 : b14 = true := hd ⟨14, .phase⟩ (by simp) rfl
         have d15 : b15 = true := hd ⟨15, .phase⟩ (by simp) rfl
         have d16 : b16 = true := hd ⟨16, .phase⟩ (by simp) rfl
         have d17 : b17 = true := hd ⟨17, .phase⟩ (by simp) rfl
         have d18 : b18 = true := hd ⟨18, .phase⟩ (by simp) rfl
         have d19 : b19 = true := hd ⟨19, .phase⟩ (by simp) rfl
         have d20 : b20 = true := hd ⟨20, .phase⟩ (by simp) rfl
         have d21 : b21 = true := hd ⟨21, .phase⟩ (by simp) rfl
         have d22 : b22 = true := hd ⟨22, .phase⟩ (by simp) rfl
         have d23 : b23 = true := hd ⟨23, .phase⟩ (by simp) rfl
         have d24 : b24 = true := hd ⟨24, .phase⟩ (by simp) rfl
         have d25 : b25 = true := hd ⟨25, .data⟩ (by simp) rfl
         subst d0
         subst d1
         subst d2
         subst d3
         subst d4
         subst d5
         subst d6
         subst d7
         subst d8
         subst d9
         subst d10
         subst d11
         subst d12
         subst d13
         subst d14
         subst d15
         subst d16
         subst d17
         subst d18
         subst d19
         subst d20
         subst d21
         subst d22
         subst d23
         subst d24
         subst d25
         subst hf
         refine Go.Proofs.YtbmklpcheopgoaaReg.op_val ho2 rfl (v := V1) (w1 := W') ?_ (hK _ _ ⟨⟨true, true, true, true, true, true, true, true, true, true, true, true, true, true, true, true, true, true, true, true, true, true, true, true, true, true, true, gH, V1⟩, rfl, rfl, (fun _ => rfl), (fun _ => rfl), (fun _ => rfl), hHB, hHO, hHX, hHW⟩)
         simp [go_sem, hu, hu2]
       ·
        rintro lst a W' ⟨⟨b0, b1, b2, b3, b4, b5, b6, b7, b8, b9, b10, b11, b12, b13, b14, b15, b16, b17, b18, b19, b20, b21, b22, b23, b24, b25, b26, gH, V1⟩, rfl, rfl, k0, k1, k2, hHB, hHO, hHX, hHW⟩ hall
        dsimp only at k0 k1 k2 hHB hHO hHX hHW
        have a0 : b0 = true := hall 0 (by decide)
        have a1 : b1 = true := hall 1 (by decide)
        have a2 : b2 = true := hall 2 (by decide)
        have a3 : b3 = true := hall 3 (by decide)
        have a4 : b4 = true := hall 4 (by decide)
        have a5 : b5 = true := hall 5 (by decide)
        have a6 : b6 = true := hall 6 (by decide)
        have a7 : b7 = true := hall 7 (by decide)
        have a8 : b8 = true := hall 8 (by decide)
        have a9 : b9 = true := hall 9 (by decide)
        have a10 : b10 = true := hall 10 (by decide)
        have a11 : b11 = true := hall 11 (by decide)
        have a12 : b12 = true := hall 12 (by decide)
        have a13 : b13 = true := hall 13 (by decide)
        have a14 : b14 = true := hall 14 (by decide)
        have a15 : b15 = true := hall 15 (by decide)
        have a16 : b16 = true := hall 16 (by decide)
        have a17 : b17 = true := hall 17 (by decide)
        have a18 : b18 = true := hall 18 (by decide)
        have a19 : b19 = true := hall 19 (by decide)
        have a20 : b20 = true := hall 20 (by decide)
        have a21 : b21 = true := hall 21 (by decide)
        have a22 : b22 = true := hall 22 (by decide)
        have a23 : b23 = true := hall 23 (by decide)
        have a24 : b24 = true := hall 24 (by decide)
        have a25 : b25 = true := hall 25 (by decide)
        have a26 : b26 = true := hall 26 (by decide)
        subst a0 a1 a2 a3 a4 a5 a6 a7 a8 a9 a10 a11 a12 a13 a14 a15 a16 a17 a18 a19 a20 a21 a22 a23 a24 a25 a26
        clear k0 k1 k2
        clear hall
        have HB : Blks [(gA, .cells #[.int .i64 (rd_T101 l ((i : Nat) : Int)).f0.f0, .int .i64 (rd_T101 l ((i : Nat) : Int)).f0.f1, .bool (rd_T101 l ((i : Nat) : Int)).f1] 101 (0, 0)), (gC, .cells #[.int .i64 (rd_T101 l ((j1 : Nat) : Int)).f0.f0, .int .i64 (rd_T101 l ((j1 : Nat) : Int)).f0.f1, .bool (rd_T101 l ((j1 : Nat) : Int)).f1] 101 (0, 0)), (gB, .cells #[.int .i64 (rd_T101 l ((j2 : Nat) : Int)).f0.f0, .int .i64 (rd_T101 l ((j2 : Nat) : Int)).f0.f1, .bool (rd_T101 l ((j2 : Nat) : Int)).f1] 101 (0, 0))] W' := hHB
        have HO : Kd.R k52 52 W' w.heap.size (Own1 V1) V1 (o2 ++ [⟨(atV ((1 + m : Nat) : Int) (rd_T101 l ((i : Nat) : Int)).f0.f0 (rd_T101 l ((j1 : Nat) : Int)).f0.f0 (rd_T101 l ((j2 : Nat) : Int)).f0.f0), (atV ((1 + m : Nat) : Int) (rd_T101 l ((i : Nat) : Int)).f0.f1 (rd_T101 l ((j1 : Nat) : Int)).f0.f1 (rd_T101 l ((j2 : Nat) : Int)).f0.f1)⟩]) := hHO
        have HW : Below w.heap.size w W' := hHW
        clear hHB hHO hHX hHW
        have HH := Lib.hid (And.intro HO (And.intro HB HW))
        clear HO HB HW
        go_wp2
        refine ⟨⟨m + 1, by omega, by congr 1 <;> omega, ⟨?_, HH.out.2.1, HH.out.2.2⟩⟩, by simp [intOf]; omega⟩
        rw [HKS.out, ← List.append_assoc, HO2.out]
        exact HH.out.1
      ·
       obtain rfl : m = 8 := by omega
       have HH := Lib.hid (And.intro HO (And.intro HB HW))
       clear HO HB HW
       go_wp2
       refine ⟨⟨i + 2, out ++ curveK l i 8, by omega, by congr 1 <;> omega, by simp; omega, by rw [List.length_append, curveK_len]; omega, ⟨?_, HH.out.1, HH.out.2.2⟩⟩, by simp [intOf]; omega⟩
       rw [← hE.out.2, rowGo_off l i out hlt (by rw [hJ.out.1]; exact hons.out)]
  ·
   obtain ⟨Ao, co, hv3⟩ := Kd.R_slice HO
   subst hv3
   have hcap := (Kd.R_reads' HO).2.1
   have hc2 : out.length - 1 ≤ co := by omega
   go_wp2
   go_ret
   rw [show l.length - i = 0 by omega] at HG
   have HG : out = rowAll l := HG
   subst HG
   exact ⟨_, rfl, Kd.R_mono (Kd.R_take HO (m := (rowAll l).length - 1) (by omega)) (fun _ _ => trivial), HB⟩

end Go.Proofs.Ytbmklpcheopgoaa.H

namespace Go.Proofs.Ytbmklpcheopgoaa.H
open Go.RowKit Go.Proofs.YtbmklpcheopgoaaW.PrintWords Go.Proofs.YtbmklpcheopgoaaW.PrintLast Go.Proofs.YtbmklpcheopgoaaW.PrintMore
attribute [local go_sem] max2_int min2_int max_two min_two max_three min_three max_four min_four   -- for this text's walks alone
set_option linter.unusedVariables false
set_option linter.unusedSimpArgs false

/-! ### outline_ring: function 49 -/
open Go.Proofs.YtbmklpcheopgoaaOps
attribute [local go_sem] World.cell?_alloc_some
/-- One round of ring: the mid point where two points off the curve meet, then the point; and where the first point on the curve stands. -/
def ringStep (pts : List S52) (on : List Bool) (st : List S101 × Int) (i : Nat) : List S101 × Int :=
  let b := (i + (pts.length - 1)) % pts.length
  let p := rd_T52 pts i
  let q := rd_T52 pts b
  let o1 := if rdOf false on i = false ∧ rdOf false on b = false then st.1 ++ [⟨⟨wrap64 (p.f0 + q.f0) / 2, wrap64 (p.f1 + q.f1) / 2⟩, true⟩] else st.1
  (o1 ++ [⟨p, rdOf false on i⟩], if rdOf false on i = true ∧ st.2 < 0 then (o1.length : Int) else st.2)
def ringSt (pts : List S52) (on : List Bool) (k : Nat) : List S101 × Int := (List.range k).foldl (ringStep pts on) ([], -1)
theorem ringSt_succ (pts : List S52) (on : List Bool) (k : Nat) : ringSt pts on (k + 1) = ringStep pts on (ringSt pts on k) k := by simp [ringSt, List.range_succ]
theorem ringStep_len (pts : List S52) (on : List Bool) (st : List S101 × Int) (i : Nat) : (ringStep pts on st i).1.length ≤ st.1.length + 2 := by
  unfold ringStep
  dsimp only
  split <;> simp
theorem ringSt_len (pts : List S52) (on : List Bool) (k : Nat) : (ringSt pts on k).1.length ≤ 2 * k := by
  induction k with
  | zero => simp [ringSt]
  | succ k ih => rw [ringSt_succ]; have := ringStep_len pts on (ringSt pts on k) k; omega

theorem ringSt_at (pts : List S52) (on : List Bool) (k : Nat) : (ringSt pts on k).2 ≤ (ringSt pts on k).1.length := by
  induction k with
  | zero => simp [ringSt]
  | succ k ih =>
    rw [ringSt_succ]
    generalize ringSt pts on k = st at *
    unfold ringStep
    dsimp only
    split <;> split <;> simp <;> omega
def ringFin (st : List S101 × Int) : List S101 := st.1.drop (max st.2 0).toNat ++ st.1.take (max st.2 0).toNat
theorem ringFin_neg (xs : List S101) (s0 : Int) (h : s0 < 0) : ringFin (xs, s0) = xs := by
  unfold ringFin
  have : (max s0 0).toNat = 0 := by omega
  simp [this]
theorem ringFin_nat (xs : List S101) (s : Nat) : ringFin (xs, (s : Int)) = xs.drop s ++ xs.take s := by
  unfold ringFin
  have : (max (s : Int) 0).toNat = s := by omega
  simp [this]
theorem ringNil {α : Type} {d : Kd α} {W : World} {A : Option Addr} {n : Nat} {xs : List α} (h : d.C W A n xs) : d.C W A 0 [] := ⟨rfl, by omega, fun h => absurd h (by omega)⟩
theorem ringNone {α : Type} {d : Kd α} {W : World} {A : Option Addr} {xs : List α} (h : d.C W A xs.length xs) : A = none → xs.length = 0 := fun e => by
  rcases Nat.eq_zero_or_pos xs.length with h0 | h0
  · exact h0
  · obtain ⟨ad, h1, _⟩ := h.2.2 h0
    rw [e] at h1; cases h1
theorem ring_lim {α : Type} (n : Nat) (xs : List α) (x : α) (i : Nat) (h : xs.length ≤ 2 * i) (hi : i < n) (hn : n ≤ 1000000) : ((xs ++ [x]).length + 1) * 24 ≤ 140737488355328 := by
  simp only [List.length_append, List.length_singleton]
  omega

set_option maxRecDepth 100000 in
set_option maxHeartbeats 4000000 in
theorem ring_calls (A0 : Option Addr) (c0 : Nat) (pts : List S52) (A1 : Option Addr) (c1 : Nat) (on : List Bool) (w : World) (hr0 : Kd.C k52 w A0 pts.length pts) (hc0 : pts.length ≤ c0) (hr1 : Kd.C Kd.bool w A1 on.length on) (hc1 : on.length ≤ c1)
    (hl : on.length = pts.length) (hlim : pts.length ≤ 1000000) :
    Calls Try.prog 49 #[.slice A0 pts.length c0, .slice A1 on.length c1] w fun e w' => ∃ A c, e = .returned (.slice A (ringFin (ringSt pts on pts.length)).length c) ∧ (ringFin (ringSt pts on pts.length)).length ≤ c ∧ Kd.C k101 w' A (ringFin (ringSt pts on pts.length)).length (ringFin (ringSt pts on pts.length)) ∧ Below w.heap.size w w' := by
  have hu52 := Try.underlying52
  have hu101 := Try.underlying101
  have HR0 := aM hr0
  have HR1 := aM hr1
  have HL := Lib.hid hl
  clear hr0 hr1 hl
  go_enter Try.func49, Try.ntmps49
  go_wp2
  go_loopw [5, 6, 16] (fun v5 v6 v16 wr => ∃ i : Nat, i ≤ pts.length ∧ v16 = .int .i64 i ∧ v6 = .int .i64 (ringSt pts on i).2 ∧ Aside0 (Kd.R k101 101 wr w.heap.size (fun _ => True) v5 (ringSt pts on i).1 ∧ Below w.heap.size w wr))
    (fun _ _ v16 _ => pts.length - (intOf v16).toNat)
  case atStart => exact ⟨0, by omega, rfl, rfl, ⟨Kd.R_nil _ _ _ _ _, Below.refl _ _⟩⟩
  case round =>
    obtain ⟨i, hi, rfl, rfl, ⟨HO, HB⟩⟩ := hrel
    obtain ⟨Ao, co, rfl, hco, hCo⟩ := Kd.R_reads HO
    have HCo := aM hCo
    clear hCo
    by_cases hlt : i < pts.length
    · obtain ⟨ad0, e0, hx0, hx1⟩ := at_T52 HR0.out (i : Int) (by omega) (by omega)
      cases e0
      replace hx0 := (HB.cell (World.block_lt_of_cell? w _ hx0)).trans hx0
      replace hx1 := (HB.cell (World.block_lt_of_cell? w _ hx1)).trans hx1
      obtain ⟨ad1, e1, hy0⟩ := Kd.at_bool HR1.out (i : Int) (by omega) (by have := HL.out; omega)
      cases e1
      have hlt1 : (ad1.add (i : Int).toNat).block < w.heap.size := World.block_lt_of_cell? w _ hy0
      replace hy0 := (HB.cell (World.block_lt_of_cell? w _ hy0)).trans hy0
      simp only [Int.toNat_natCast] at hx0 hx1 hy0 hlt1
      obtain ⟨b, hb⟩ : ∃ b : Nat, (i + (pts.length - 1)) % pts.length = b := ⟨_, rfl⟩
      have hbl : b < pts.length := by rw [← hb]; exact Nat.mod_lt _ (by omega)
      have hbi : ((i : Int) + ((pts.length : Int) - 1)) % (pts.length : Int) = (b : Int) := by
        rw [← hb, Int.natCast_emod, Int.natCast_add, Int.natCast_sub (by omega)]; rfl
      obtain ⟨ad2, e2, hz0, hz1⟩ := at_T52 HR0.out (b : Int) (by omega) (by omega)
      cases e2
      obtain ⟨ad2, e2, ho0⟩ := Kd.at_bool HR1.out (b : Int) (by omega) (by have := HL.out; omega)
      cases e2
      have hltz : (ad0.add ((b : Int).toNat * 2)).block < w.heap.size := World.block_lt_of_cell? w _ hz0
      simp only [Int.toNat_natCast] at hz0 hz1 ho0 hltz
      replace hz0 := (HB.cell (World.block_lt_of_cell? w _ hz0)).trans hz0
      replace hz1 := (HB.cell (World.block_lt_of_cell? w _ hz1)).trans hz1
      replace ho0 := (HB.cell (World.block_lt_of_cell? w _ ho0)).trans ho0
      have hio : i < on.length := by have := HL.out; omega
      have hbo : b < on.length := by have := HL.out; omega
      have Hb := Lib.hid hb
      clear hb
      have hlen := ringSt_len pts on i
      have hsz : w.heap.size ≤ (wr.alloc (.cells #[.int .i64 (rd_T52 pts i).f0, .int .i64 (rd_T52 pts i).f1] 52)).drew.heap.size := by have := HB.size; simp; omega
      have hlim2 : ((ringSt pts on i).1.length + 1) * 24 ≤ 140737488355328 := by omega
      have hl2 : ∀ x : S101, (((ringSt pts on i).1 ++ [x]).length + 1) * 24 ≤ 140737488355328 := fun x => ring_lim _ _ x i hlen hlt hlim
      cases hon : rdOf false on (i : Int) with
      | true =>
        rw [hon] at hy0
        by_cases hst : (ringSt pts on i).2 < 0
        · go_wp2
          go_region_held3 (fun w' => w'.cell? (ad1.add i) = some (.bool true) ∧ w'.cell? ⟨wr.heap.size, 0, none⟩ = some (.int .i64 (rd_T52 pts i).f0) ∧ w'.cell? ⟨wr.heap.size, 1, none⟩ = some (.int .i64 (rd_T52 pts i).f1))
            (first
              | go_keep
              | (go_split_ands
                 exact ⟨cell_far_lt hg (by simp [go_sem, *]) (Kd.R_base HO) hlt1, cell_far_ge hg (by simp [go_sem]) (Kd.R_lt HO) (Nat.le_refl _), cell_far_ge hg (by simp [go_sem]) (Kd.R_lt HO) (Nat.le_refl _)⟩))
            ((refine R_append_at k101 (w0 := w) (W := (wr.alloc (.cells #[.int .i64 (rd_T52 pts i).f0, .int .i64 (rd_T52 pts i).f1] 52)).drew) w.heap.size rfl (.tmp 72) (.tmp 79) 83 101 _ 24 rfl Try.underlying83 info101 rfl (by decide) (by omega) (.slice Ao (ringSt pts on i).1.length co) (ringSt pts on i).1 ⟨rd_T52 pts i, true⟩ _ rfl _ rfl (by simp) (k101_mkM _ _ _ _) (Kd.R_drew (Kd.R_alloc HO _)) (below_drew (bA HB _)) hsz hlim2 rfl ?_
              intro v1 w1 ho hb hg hat))
          go_wp2
          go_roundw
          case rel => exact ⟨i + 1, by omega, by simp, by rw [ringSt_succ]; simp [ringStep, hon]; try omega, ⟨by rw [ringSt_succ]; simpa [ringStep, hon] using ho, hb⟩⟩
          case measure => simp [intOf]; omega
        · go_wp2
          go_region_held3 (fun w' => w'.cell? (ad1.add i) = some (.bool true) ∧ w'.cell? ⟨wr.heap.size, 0, none⟩ = some (.int .i64 (rd_T52 pts i).f0) ∧ w'.cell? ⟨wr.heap.size, 1, none⟩ = some (.int .i64 (rd_T52 pts i).f1))
            (first
              | go_keep
              | (go_split_ands
                 exact ⟨cell_far_lt hg (by simp [go_sem, *]) (Kd.R_base HO) hlt1, cell_far_ge hg (by simp [go_sem]) (Kd.R_lt HO) (Nat.le_refl _), cell_far_ge hg (by simp [go_sem]) (Kd.R_lt HO) (Nat.le_refl _)⟩))
            ((refine R_append_at k101 (w0 := w) (W := (wr.alloc (.cells #[.int .i64 (rd_T52 pts i).f0, .int .i64 (rd_T52 pts i).f1] 52)).drew) w.heap.size rfl (.tmp 72) (.tmp 79) 83 101 _ 24 rfl Try.underlying83 info101 rfl (by decide) (by omega) (.slice Ao (ringSt pts on i).1.length co) (ringSt pts on i).1 ⟨rd_T52 pts i, true⟩ _ rfl _ rfl (by simp) (k101_mkM _ _ _ _) (Kd.R_drew (Kd.R_alloc HO _)) (below_drew (bA HB _)) hsz hlim2 rfl ?_
              intro v1 w1 ho hb hg hat))
          go_wp2
          go_roundw
          case rel => exact ⟨i + 1, by omega, by simp, by rw [ringSt_succ]; simp [ringStep, hon]; try omega, ⟨by rw [ringSt_succ]; simpa [ringStep, hon] using ho, hb⟩⟩
          case measure => simp [intOf]; omega
      | false =>
        rw [hon] at hy0
        cases hob : rdOf false on (b : Int) with
        | true =>
          rw [hob] at ho0
          have hst : True := trivial
          go_wp2
          go_region_held3 (fun w' => w'.cell? (ad1.add i) = some (.bool false) ∧ w'.cell? ⟨wr.heap.size, 0, none⟩ = some (.int .i64 (rd_T52 pts i).f0) ∧ w'.cell? ⟨wr.heap.size, 1, none⟩ = some (.int .i64 (rd_T52 pts i).f1))
            (first
              | go_keep
              | (go_split_ands
                 exact ⟨cell_far_lt hg (by simp [go_sem, *]) (Kd.R_base HO) hlt1, cell_far_ge hg (by simp [go_sem]) (Kd.R_lt HO) (Nat.le_refl _), cell_far_ge hg (by simp [go_sem]) (Kd.R_lt HO) (Nat.le_refl _)⟩))
            ((refine R_append_at k101 (w0 := w) (W := (wr.alloc (.cells #[.int .i64 (rd_T52 pts i).f0, .int .i64 (rd_T52 pts i).f1] 52)).drew) w.heap.size rfl (.tmp 72) (.tmp 79) 83 101 _ 24 rfl Try.underlying83 info101 rfl (by decide) (by omega) (.slice Ao (ringSt pts on i).1.length co) (ringSt pts on i).1 ⟨rd_T52 pts i, false⟩ _ rfl _ rfl (by simp) (k101_mkM _ _ _ _) (Kd.R_drew (Kd.R_alloc HO _)) (below_drew (bA HB _)) hsz hlim2 rfl ?_
              intro v1 w1 ho hb hg hat))
          go_wp2
          go_roundw
          case rel => exact ⟨i + 1, by omega, by simp, by rw [ringSt_succ]; simp [ringStep, hon], ⟨by rw [ringSt_succ]; simpa [ringStep, hon, hob, Hb.out] using ho, hb⟩⟩
          case measure => simp [intOf]; omega
        | false =>
          rw [hob] at ho0
          go_wp2
          go_region_held3 (fun w' => w'.cell? (ad1.add i) = some (.bool false) ∧ w'.cell? ⟨wr.heap.size, 0, none⟩ = some (.int .i64 (rd_T52 pts i).f0) ∧ w'.cell? ⟨wr.heap.size, 1, none⟩ = some (.int .i64 (rd_T52 pts i).f1) ∧ w'.cell? (ad0.add (b * 2)) = some (.int .i64 (rd_T52 pts b).f0) ∧ w'.cell? ⟨(ad0.add (b * 2)).block, (ad0.add (b * 2)).off + 1, none⟩ = some (.int .i64 (rd_T52 pts b).f1))
            (first
              | go_keep
              | exact ⟨hK1, hK2, hK3, hK4, hK5⟩
              | (go_split_ands <;> assumption)
              | go_split_ands)
            ((go_loud (refine R_append_at k101 (w0 := w) (W := (wr.alloc (.cells #[.int .i64 (rd_T52 pts i).f0, .int .i64 (rd_T52 pts i).f1] 52)).drew) w.heap.size rfl (.tmp 39) (.tmp 60) 83 101 _ 24 rfl Try.underlying83 info101 rfl (by decide) (by omega) (.slice Ao (ringSt pts on i).1.length co) (ringSt pts on i).1 ⟨⟨IntKind.i64.wrap ((rd_T52 pts i).f0 + (rd_T52 pts b).f0) / 2, IntKind.i64.wrap ((rd_T52 pts i).f1 + (rd_T52 pts b).f1) / 2⟩, true⟩ _ rfl _ rfl (by simp) (k101_mkM _ _ _ _) (Kd.R_drew (Kd.R_alloc HO _)) (below_drew (bA HB _)) hsz hlim2 rfl ?_)
              intro v1 w1 ho hb hg hat
              have hK1 : w1.cell? (ad1.add i) = some (.bool false) := cell_far_lt hg (by simp [go_sem, *]) (Kd.R_base HO) hlt1
              have hK2 : w1.cell? ⟨wr.heap.size, 0, none⟩ = some (.int .i64 (rd_T52 pts i).f0) := cell_far_ge hg (by simp [go_sem]) (Kd.R_lt HO) (Nat.le_refl _)
              have hK3 : w1.cell? ⟨wr.heap.size, 1, none⟩ = some (.int .i64 (rd_T52 pts i).f1) := cell_far_ge hg (by simp [go_sem]) (Kd.R_lt HO) (Nat.le_refl _)
              have hK4 : w1.cell? (ad0.add (b * 2)) = some (.int .i64 (rd_T52 pts b).f0) := cell_far_lt hg (by simp [go_sem, *]) (Kd.R_base HO) hltz
              have hK5 : w1.cell? ⟨(ad0.add (b * 2)).block, (ad0.add (b * 2)).off + 1, none⟩ = some (.int .i64 (rd_T52 pts b).f1) := cell_far_lt hg (by simp [go_sem, *]) (Kd.R_base HO) hltz
              have hK6 : w1.heap[wr.heap.size]? = some (.cells #[.int .i64 (rd_T52 pts i).f0, .int .i64 (rd_T52 pts i).f1] 52 (0, 0)) := (hg.block _ (by simp) (fun e => by have := Kd.R_lt HO _ e.symm; omega)).trans (World.alloc_heap_new wr _)))
          have hs1 : w.heap.size ≤ w1.drew.heap.size := by have := hb.size; simp; omega
          have HO1 := aM ho
          have HB1 := aM hb
          have HK6 := aM hK6
          clear hg hat ho hb hK6
          go_wp2
          go_region_held3 (fun w' => w'.cell? (ad1.add i) = some (.bool false) ∧ w'.cell? ⟨wr.heap.size, 0, none⟩ = some (.int .i64 (rd_T52 pts i).f0) ∧ w'.cell? ⟨wr.heap.size, 1, none⟩ = some (.int .i64 (rd_T52 pts i).f1))
            (first
              | go_keep
              | exact ⟨cell_far_lt hg2 (by simp [go_sem, *]) (Kd.R_base HO1.out) hlt1, hM2, hM3⟩
              | (go_split_ands <;> first | assumption | exact cell_far_lt hg2 (by simp [go_sem, *]) (Kd.R_base HO1.out) hlt1)
              | go_split_ands)
            ((go_loud (refine R_append_at k101 (w0 := w) (W := w1.drew) w.heap.size rfl (.tmp 72) (.tmp 79) 83 101 _ 24 rfl Try.underlying83 info101 rfl (by decide) (by omega) v1 _ ⟨rd_T52 pts i, false⟩ _ rfl _ rfl (by simp) (k101_mkM _ _ _ _) (Kd.R_drew HO1.out) (below_drew HB1.out) hs1 (hl2 _) rfl ?_)
              intro v2 w2 ho2 hb2 hg2 hat2
              have hM : w2.heap[wr.heap.size]? = some (.cells #[.int .i64 (rd_T52 pts i).f0, .int .i64 (rd_T52 pts i).f1] 52 (0, 0)) := (hg2.block _ (Array.getElem?_eq_some_iff.1 HK6.out).1 (Kd.R_ne HO1.out HK6.out (by decide))).trans HK6.out
              have hM1 : w2.cell? (ad1.add i) = some (.bool false) := cell_far_lt hg2 (by simp [go_sem, *]) (Kd.R_base HO1.out) hlt1
              have hM2 := blk_cell hM 0
              have hM3 := blk_cell hM 1
              clear hM))
          go_wp2
          go_roundw
          case rel => exact ⟨i + 1, by omega, by simp, by rw [ringSt_succ]; simp [ringStep, hon], ⟨by rw [ringSt_succ]; simpa [ringStep, hon, hob, Hb.out, i64_w] using ho2, hb2⟩⟩
          case measure => simp [intOf]; omega
    · obtain rfl : i = pts.length := by omega
      have hst := ringSt_at pts on pts.length
      have hlen := ringSt_len pts on pts.length
      generalize hQ : ringSt pts on pts.length = st at *
      obtain ⟨xs, s0⟩ := st
      have HQ := Lib.hid hQ
      clear hQ
      dsimp only at *
      have hbel : ∀ {w1 : World}, Below wr.drew.heap.size wr.drew w1 → Below w.heap.size wr.drew w1 := fun h => h.mono HB.size
      have hlim3 : (xs.length + 0) * 24 ≤ 140737488355328 := by omega
      by_cases h0 : s0 < 0
      · have hfin : ringFin (xs, s0) = xs := ringFin_neg _ _ h0
        obtain ⟨A1, c1, w1, hrun, hc1, hC1, hb1⟩ := run_full (P := Try.prog) k101 (W := wr.drew) (t := 83) (ty := 83) (c := xs.length) (c' := co) Try.underlying83 info101 rfl (by decide) (by omega) (Kd.C_drew HCo.out) (Kd.C_drew (ringNil HCo.out)) (Nat.le_refl _) (.inr rfl) hlim3 (ringNone HCo.out)
        simp only [Nat.add_zero, List.append_nil] at hrun hC1 hc1
        go_wp2
        go_still_tail 10, (by kernel_rfl)
        change wpList _ _ _ _ _ wr.drew
        go_wp2_with (first | (at_builtin; refine app_list (s := .tmp 90) (x := .tmp 93) rfl rfl rfl rfl hrun ?_))
        go_ret
        exact ⟨A1, c1, by rw [HQ.out, hfin]; rfl, by rw [HQ.out, hfin]; exact hc1, by rw [HQ.out, hfin]; exact hC1, HB.drew.trans (hbel hb1)⟩
      · obtain ⟨s, rfl⟩ : ∃ s : Nat, s0 = (s : Int) := ⟨s0.toNat, by omega⟩
        have hsl : s ≤ xs.length := by omega
        by_cases he : xs.length = s
        · have hfin := ringFin_nat xs s
          subst he
          obtain ⟨A1, c1, w1, hrun, hc1, hC1, hb1⟩ := run_full (P := Try.prog) k101 (W := wr.drew) (A := Ao) (t := 83) (ty := 83) (c := 0) (c' := co) Try.underlying83 info101 rfl (by decide) (by omega) (Kd.C_drew (ringNil HCo.out)) (Kd.C_drew HCo.out) (Nat.le_refl _) (by omega) (by omega) (fun _ => rfl)
          simp only [Nat.zero_add, List.nil_append] at hrun hC1 hc1
          have hf2 : xs.drop xs.length ++ xs.take xs.length = xs := by simp
          rw [hf2] at hfin
          have hco2 : xs.length ≤ co := hco
          go_wp2
          go_still_tail 10, (by kernel_rfl)
          change wpList _ _ _ _ _ wr.drew
          go_wp2_with (first | (at_builtin; refine app_list (s := .tmp 90) (x := .tmp 93) rfl rfl rfl rfl hrun ?_))
          go_ret
          exact ⟨A1, c1, by rw [HQ.out, hfin]; rfl, by rw [HQ.out, hfin]; exact hc1, by rw [HQ.out, hfin]; exact hC1, HB.drew.trans (hbel hb1)⟩
        · have he1 : ¬ (xs.length = s) := he
          have he2 : ¬ (xs.length - s = 0) := by omega
          have he3 : s < xs.length := by omega
          have he4 : s ≤ co := by omega
          have hfin := ringFin_nat xs s
          have hdl : (xs.drop s).length = xs.length - s := List.length_drop
          have htl : (xs.take s).length = s := by rw [List.length_take]; omega
          have hA := Kd.C_drop (c := xs.length) HCo.out hsl (Nat.le_refl _)
          rw [if_neg he1, hdl] at hA
          have hB := Kd.C_take HCo.out hsl
          rw [htl] at hB
          have hlim4 : (xs.length - s + s) * 24 ≤ 140737488355328 := by omega
          obtain ⟨g, hg⟩ : ∃ g, Ao = some g := by obtain ⟨g, hg, _⟩ := HCo.out.2.2 (by omega); exact ⟨g, hg⟩
          subst hg
          obtain ⟨A1, c1, w1, hrun, hc1, hC1, hb1⟩ := run_full (P := Try.prog) k101 (W := wr.drew) (t := 83) (ty := 83) (c := xs.length - s) (c' := co) Try.underlying83 info101 rfl (by decide) (by omega) (Kd.C_drew hA) (Kd.C_drew hB) (Nat.le_refl _) (by omega) hlim4 (fun h => by cases h)
          have hsum : xs.length - s + s = xs.length := by omega
          have hsum2 : (xs.drop s ++ xs.take s).length = xs.length := by rw [List.length_append, hdl, htl]; omega
          have HR := Lib.hid hrun
          have HS := Lib.hid hsum
          have HS2 := Lib.hid hsum2
          have HF := Lib.hid hfin
          have HC1 := aM hC1
          clear hrun hsum hsum2 hdl htl hA hB hC1 hfin
          go_wp2
          go_still_tail 10, (by kernel_rfl)
          change wpList _ _ _ _ _ wr.drew
          go_wp2_with (first | (at_builtin; refine app_list (s := .tmp 90) (x := .tmp 93) rfl rfl rfl rfl HR.out ?_))
          go_ret
          exact ⟨A1, c1, by rw [HQ.out, HF.out, HS2.out, ← HS.out]; rfl, by rw [HQ.out, HF.out, HS2.out, ← HS.out]; exact hc1, by rw [HQ.out, HF.out, HS2.out, ← HS.out]; exact HC1.out, HB.drew.trans (hbel hb1)⟩

end Go.Proofs.Ytbmklpcheopgoaa.H
