/- Texts of this session, one behind the other, for the statement OutlineTells: what its functions compute, plain facts, and (last) its row. No condition besides those stated. -/
import Derived.Test.YtbmklpcheopgoaaMTells1
import Derived.WalkKit
import Derived.Lib.Hide
import Derived.WalkSpells
set_option linter.unusedVariables false
set_option linter.unusedSimpArgs false
namespace Go.Proofs.Ytbmklpcheopgoaa.H
open Go.RowKit Go.Proofs.YtbmklpcheopgoaaW.PrintWords Go.Proofs.YtbmklpcheopgoaaW.PrintLast Go.Proofs.YtbmklpcheopgoaaW.PrintMore
attribute [local go_sem] max2_int min2_int max_two min_two max_three min_three max_four min_four
set_option linter.unusedVariables false
set_option linter.unusedSimpArgs false
open Go.Proofs.YtbmklpcheopgoaaOps Go.Proofs.YtbmklpcheopgoaaBlks Go.Proofs.YtbmklpcheopgoaaIt
attribute [local go_sem] World.cell?_alloc_some
def boxStep (st : S33 × S33) (i : Nat) (p : S33) : S33 × S33 :=
 let st : S33 × S33 := if i = 0 then (⟨p.f0, p.f1, false⟩, ⟨p.f0, p.f1, false⟩) else st
 (⟨min st.1.f0 p.f0, min st.1.f1 p.f1, st.1.f2⟩, ⟨max st.2.f0 p.f0, max st.2.f1 p.f1, st.2.f2⟩)
def boxSt (pts : List S33) (k : Nat) : S33 × S33 := (List.range k).foldl (fun st i => boxStep st i (rd_T33 pts i)) (z33, z33)
theorem boxSt_succ (pts : List S33) (k : Nat) : boxSt pts (k + 1) = boxStep (boxSt pts k) k (rd_T33 pts k) := by simp [boxSt, List.range_succ]
def boxPt (p : S33) : Obj := .cells #[.int .i64 p.f0, .int .i64 p.f1, .bool p.f2] 33 (0, 0)
set_option maxRecDepth 100000 in
set_option maxHeartbeats 4000000 in
theorem box_calls (A0 : Option Addr) (c0 : Nat) (pts : List S33) (v1 : Value) (w : World) (hr0 : Kd.C k33 w A0 pts.length pts) (hc0 : pts.length ≤ c0) :
  Calls Try.prog 19 #[.agg #[.slice A0 pts.length c0, v1]] w fun e w' => e = .returned (.tuple #[.agg #[.int .i64 (boxSt pts pts.length).1.f0, .int .i64 (boxSt pts pts.length).1.f1, .bool (boxSt pts pts.length).1.f2], .agg #[.int .i64 (boxSt pts pts.length).2.f0, .int .i64 (boxSt pts pts.length).2.f1, .bool (boxSt pts pts.length).2.f2], .bool (decide (0 < pts.length))]) ∧ Below w.heap.size w w' := by
 have hu := Try.underlying33
 have hu2 := Try.underlying25
 have hmx := Kd.C_max hr0
 have HR0 := aM hr0
 clear hr0
 go_enter Try.func19, Try.ntmps19
 go_wp2
 go_loopw [5, 6, 10] (fun _ _ v10 wr => ∃ i : Nat, i ≤ pts.length ∧ v10 = .int .i64 i ∧ Aside0 (Blks [(w.heap.size + 1 + 1, boxPt (boxSt pts i).2), (w.heap.size + 1, boxPt (boxSt pts i).1), (w.heap.size, .cells #[.slice A0 pts.length c0, v1] 25 (0, 0))] wr ∧ Below w.heap.size w wr))
  (fun _ _ v10 _ => pts.length - (intOf v10).toNat)
 case atStart => exact ⟨0, by omega, rfl, ⟨(((Blks.nil w).alloc _).alloc_at _ (by simp)).alloc_at _ (by simp), ((((Below.refl _ _).alloc (Nat.le_refl _) _).alloc (by simp) _).alloc (by simp; omega) _)⟩⟩
 case round =>
  obtain ⟨i, hi, rfl, ⟨HB, HW⟩⟩ := hrel
  have hlt2 := Lib.hid HB.lt
  by_cases hlt : i < pts.length
  ·
   obtain ⟨ad0, e0, hx0, hx1, hx2⟩ := at_T33 HR0.out (i : Int) (by omega) (by omega)
   cases e0
   replace hx0 := (HW.cell (World.block_lt_of_cell? w _ hx0)).trans hx0
   replace hx1 := (HW.cell (World.block_lt_of_cell? w _ hx1)).trans hx1
   replace hx2 := (HW.cell (World.block_lt_of_cell? w _ hx2)).trans hx2
   simp only [Int.toNat_natCast] at hx0 hx1 hx2
   have hsz : w.heap.size + 1 + 1 < wr.heap.size := hlt2.out _ (by simp)
   have HS := Lib.hid hsz
   clear hlt2 hsz
   by_cases hz : i = 0
   ·
    have hz' : ((i : Int) == 0) = true := by simpa using hz
    have HZ := Lib.hid hz
    clear hz
    go_wp2
    replace HB := (HB.alloc (.cells #[.int .i64 (rd_T33 pts i).f0, .int .i64 (rd_T33 pts i).f1, .bool (rd_T33 pts i).f2] 33))
    replace HW := (HW.alloc HW.size (.cells #[.int .i64 (rd_T33 pts i).f0, .int .i64 (rd_T33 pts i).f1, .bool (rd_T33 pts i).f2] 33))
    refine Go.Proofs.YtbmklpcheopgoaaReg.reg_inv (by rfl) [0, 1, 2, 3, 4, 5, 6, 7, 8, 9, 10, 11] (by kernel_rfl) (by kernel_rfl)
     (fun lst a W' => ∃ (b0 b1 b2 b3 b4 b5 b6 b7 b8 b9 b10 b11 : Bool), lst = #[b0, b1, b2, b3, b4, b5, b6, b7, b8, b9, b10, b11] ∧ a = ⟨#[.agg #[.slice (some ad0) pts.length c0, v1], .pointer (some ⟨w.heap.size, 0, none⟩), .pointer (some ⟨(w.heap.size + 1), 0, none⟩), .pointer (some ⟨(w.heap.size + 1 + 1), 0, none⟩), .bool false, .int .i64 i, .pointer (some ⟨wr.heap.size, 0, none⟩), .pointer (some ⟨w.heap.size, 0, none⟩), .slice (some ad0) pts.length c0, .int .i64 pts.length, .int .i64 i, .bool true, .int .i64 i, .pointer (some (ad0.add (i * 3))), .agg #[.int .i64 (rd_T33 pts i).f0, .int .i64 (rd_T33 pts i).f1, .bool (rd_T33 pts i).f2], .int .i64 i, .bool true, (cond b0 (.pointer (some ⟨wr.heap.size, 0, none⟩)) u17), (cond b1 (.int .i64 ((rd_T33 pts i).f0)) u18), (cond b2 (.pointer (some ⟨wr.heap.size, 1, none⟩)) u19), (cond b3 (.int .i64 ((rd_T33 pts i).f1)) u20), (cond b4 (.agg #[.int .i64 ((rd_T33 pts i).f0), .int .i64 ((rd_T33 pts i).f1), .bool false]) u21), (cond b5 (.pointer (some ⟨wr.heap.size, 0, none⟩)) u22), (cond b6 (.int .i64 ((rd_T33 pts i).f0)) u23), (cond b7 (.pointer (some ⟨wr.heap.size, 1, none⟩)) u24), (cond b8 (.int .i64 ((rd_T33 pts i).f1)) u25), (cond b9 (.agg #[.int .i64 ((rd_T33 pts i).f0), .int .i64 ((rd_T33 pts i).f1), .bool false]) u26), u27, u28, u29, u30, u31, u32, u33, u34, u35, u36, u37, u38, u39, u40, u41, u42, u43, u44, u45, u46, u47, u48, u49, u50, u51, undef, undef, undef, undef, undef, undef], []⟩ ∧ (Blks [(wr.heap.size, .cells #[.int .i64 ((rd_T33 pts i).f0), .int .i64 ((rd_T33 pts i).f1), .bool (rd_T33 pts i).f2] 33 (0, 0)), ((w.heap.size + 1 + 1), .cells #[cond b11 (.int .i64 ((rd_T33 pts i).f0)) (.int .i64 (boxSt pts i).2.f0), cond b11 (.int .i64 ((rd_T33 pts i).f1)) (.int .i64 (boxSt pts i).2.f1), cond b11 (.bool false) (.bool (boxSt pts i).2.f2)] 33 (0, 0)), ((w.heap.size + 1), .cells #[cond b10 (.int .i64 ((rd_T33 pts i).f0)) (.int .i64 (boxSt pts i).1.f0), cond b10 (.int .i64 ((rd_T33 pts i).f1)) (.int .i64 (boxSt pts i).1.f1), cond b10 (.bool false) (.bool (boxSt pts i).1.f2)] 33 (0, 0)), (w.heap.size, .cells #[.slice (some ad0) pts.length c0, v1] 25 (0, 0))] W') ∧ (Below w.heap.size w W')) ?_ ?_ ?_ ?_
    ·
     rintro lst a W' ⟨b0, b1, b2, b3, b4, b5, b6, b7, b8, b9, b10, b11, rfl, _⟩
     rfl
    ·
     exact ⟨false, false, false, false, false, false, false, false, false, false, false, false, rfl, rfl, HB.drew, below_drew HW⟩
    ·
     rintro lst a W' i o ⟨b0, b1, b2, b3, b4, b5, b6, b7, b8, b9, b10, b11, rfl, rfl, hHB, hHW⟩ ho hf hd K hK
     have hi : i < 12 := (Array.getElem?_eq_some_iff.1 ho).1
     have ho2 := ho
     rcases (show i = 0 ∨ i = 1 ∨ i = 2 ∨ i = 3 ∨ i = 4 ∨ i = 5 ∨ i = 6 ∨ i = 7 ∨ i = 8 ∨ i = 9 ∨ i = 10 ∨ i = 11 by omega) with rfl | rfl | rfl | rfl | rfl | rfl | rfl | rfl | rfl | rfl | rfl | rfl
     ·
      simp only [List.getElem?_toArray, List.getElem?_cons_succ, List.getElem?_cons_zero, Option.some.injEq] at ho
      subst ho
      replace hf : b0 = false := hf
      subst hf
      refine Go.Proofs.YtbmklpcheopgoaaReg.op_val ho2 rfl (v := .pointer (some ⟨wr.heap.size, 0, none⟩)) (w1 := W') ?_ (hK _ _ ⟨true, b1, b2, b3, b4, b5, b6, b7, b8, b9, b10, b11, rfl, rfl, hHB, hHW⟩)
      simp [go_sem, hu]
     ·
      simp only [List.getElem?_toArray, List.getElem?_cons_succ, List.getElem?_cons_zero, Option.some.injEq] at ho
      subst ho
      replace hf : b1 = false := hf
      have d0 : b0 = true := hd ⟨0, .data⟩ (by simp) rfl
      subst d0
      subst hf
      refine Go.Proofs.YtbmklpcheopgoaaReg.op_val ho2 rfl (v := .int .i64 ((rd_T33 pts i).f0)) (w1 := W') ?_ (hK _ _ ⟨true, true, b2, b3, b4, b5, b6, b7, b8, b9, b10, b11, rfl, rfl, hHB, hHW⟩)
      simp [go_sem, hu, (Blks.cell hHB 0 rfl 0)]
     ·
      simp only [List.getElem?_toArray, List.getElem?_cons_succ, List.getElem?_cons_zero, Option.some.injEq] at ho
      subst ho
      replace hf : b2 = false := hf
      subst hf
      refine Go.Proofs.YtbmklpcheopgoaaReg.op_val ho2 rfl (v := .pointer (some ⟨wr.heap.size, 1, none⟩)) (w1 := W') ?_ (hK _ _ ⟨b0, b1, true, b3, b4, b5, b6, b7, b8, b9, b10, b11, rfl, rfl, hHB, hHW⟩)
      simp [go_sem, hu]
     ·
      simp only [List.getElem?_toArray, List.getElem?_cons_succ, List.getElem?_cons_zero, Option.some.injEq] at ho
      subst ho
      replace hf : b3 = false := hf
      have d2 : b2 = true := hd ⟨2, .data⟩ (by simp) rfl
      subst d2
      subst hf
      refine Go.Proofs.YtbmklpcheopgoaaReg.op_val ho2 rfl (v := .int .i64 ((rd_T33 pts i).f1)) (w1 := W') ?_ (hK _ _ ⟨b0, b1, true, true, b4, b5, b6, b7, b8, b9, b10, b11, rfl, rfl, hHB, hHW⟩)
      simp [go_sem, hu, (Blks.cell hHB 0 rfl 1)]
     ·
      simp only [List.getElem?_toArray, List.getElem?_cons_succ, List.getElem?_cons_zero, Option.some.injEq] at ho
      subst ho
      replace hf : b4 = false := hf
      have d1 : b1 = true := hd ⟨1, .data⟩ (by simp) rfl
      have d3 : b3 = true := hd ⟨3, .data⟩ (by simp) rfl
      subst d1
      subst d3
      subst hf
      refine Go.Proofs.YtbmklpcheopgoaaReg.op_val ho2 rfl (v := .agg #[.int .i64 ((rd_T33 pts i).f0), .int .i64 ((rd_T33 pts i).f1), .bool false]) (w1 := W') ?_ (hK _ _ ⟨b0, true, b2, true, true, b5, b6, b7, b8, b9, b10, b11, rfl, rfl, hHB, hHW⟩)
      simp [go_sem, hu]
     ·
      simp only [List.getElem?_toArray, List.getElem?_cons_succ, List.getElem?_cons_zero, Option.some.injEq] at ho
      subst ho
      replace hf : b5 = false := hf
      subst hf
      refine Go.Proofs.YtbmklpcheopgoaaReg.op_val ho2 rfl (v := .pointer (some ⟨wr.heap.size, 0, none⟩)) (w1 := W') ?_ (hK _ _ ⟨b0, b1, b2, b3, b4, true, b6, b7, b8, b9, b10, b11, rfl, rfl, hHB, hHW⟩)
      simp [go_sem, hu]
     ·
      simp only [List.getElem?_toArray, List.getElem?_cons_succ, List.getElem?_cons_zero, Option.some.injEq] at ho
      subst ho
      replace hf : b6 = false := hf
      have d5 : b5 = true := hd ⟨5, .data⟩ (by simp) rfl
      subst d5
      subst hf
      refine Go.Proofs.YtbmklpcheopgoaaReg.op_val ho2 rfl (v := .int .i64 ((rd_T33 pts i).f0)) (w1 := W') ?_ (hK _ _ ⟨b0, b1, b2, b3, b4, true, true, b7, b8, b9, b10, b11, rfl, rfl, hHB, hHW⟩)
      simp [go_sem, hu, (Blks.cell hHB 0 rfl 0)]
     ·
      simp only [List.getElem?_toArray, List.getElem?_cons_succ, List.getElem?_cons_zero, Option.some.injEq] at ho
      subst ho
      replace hf : b7 = false := hf
      subst hf
      refine Go.Proofs.YtbmklpcheopgoaaReg.op_val ho2 rfl (v := .pointer (some ⟨wr.heap.size, 1, none⟩)) (w1 := W') ?_ (hK _ _ ⟨b0, b1, b2, b3, b4, b5, b6, true, b8, b9, b10, b11, rfl, rfl, hHB, hHW⟩)
      simp [go_sem, hu]
     ·
      simp only [List.getElem?_toArray, List.getElem?_cons_succ, List.getElem?_cons_zero, Option.some.injEq] at ho
      subst ho
      replace hf : b8 = false := hf
      have d7 : b7 = true := hd ⟨7, .data⟩ (by simp) rfl
      subst d7
      subst hf
      refine Go.Proofs.YtbmklpcheopgoaaReg.op_val ho2 rfl (v := .int .i64 ((rd_T33 pts i).f1)) (w1 := W') ?_ (hK _ _ ⟨b0, b1, b2, b3, b4, b5, b6, true, true, b9, b10, b11, rfl, rfl, hHB, hHW⟩)
      simp [go_sem, hu, (Blks.cell hHB 0 rfl 1)]
     ·
      simp only [List.getElem?_toArray, List.getElem?_cons_succ, List.getElem?_cons_zero, Option.some.injEq] at ho
      subst ho
      replace hf : b9 = false := hf
      have d6 : b6 = true := hd ⟨6, .data⟩ (by simp) rfl
      have d8 : b8 = true := hd ⟨8, .data⟩ (by simp) rfl
      subst d6
      subst d8
      subst hf
      refine Go.Proofs.YtbmklpcheopgoaaReg.op_val ho2 rfl (v := .agg #[.int .i64 ((rd_T33 pts i).f0), .int .i64 ((rd_T33 pts i).f1), .bool false]) (w1 := W') ?_ (hK _ _ ⟨b0, b1, b2, b3, b4, b5, true, b7, true, true, b10, b11, rfl, rfl, hHB, hHW⟩)
      simp [go_sem, hu]
     ·
      simp only [List.getElem?_toArray, List.getElem?_cons_succ, List.getElem?_cons_zero, Option.some.injEq] at ho
      subst ho
      replace hf : b10 = false := hf
      have d0 : b0 = true := hd ⟨0, .phase⟩ (by simp) rfl
      have d1 : b1 = true := hd ⟨1, .phase⟩ (by simp) rfl
      have d2 : b2 = true := hd ⟨2, .phase⟩ (by simp) rfl
      have d3 : b3 = true := hd ⟨3, .phase⟩ (by simp) rfl
      have d4 : b4 = true := hd ⟨4, .data⟩ (by simp) rfl
      subst d0
      subst d1
      subst d2
      subst d3
      subst d4
      subst hf
      refine Go.Proofs.YtbmklpcheopgoaaReg.op_skip ho2 rfl (w1 := (((W'.setCell ⟨(w.heap.size + 1), 0, none⟩ (.int .i64 ((rd_T33 pts i).f0))).setCell ⟨(w.heap.size + 1), 1, none⟩ (.int .i64 ((rd_T33 pts i).f1))).setCell ⟨(w.heap.size + 1), 2, none⟩ (.bool false))) ?_ (hK _ _ ⟨true, true, true, true, true, b5, b6, b7, b8, b9, true, b11, rfl, rfl, (Blks.set (Blks.set (Blks.set hHB 2 rfl 0 (.int .i64 ((rd_T33 pts i).f0))) 2 rfl 1 (.int .i64 ((rd_T33 pts i).f1))) 2 rfl 2 (.bool false)), (Below.setCell (Below.setCell (Below.setCell hHW (by dsimp only; omega) (.int .i64 ((rd_T33 pts i).f0))) (by dsimp only; omega) (.int .i64 ((rd_T33 pts i).f1))) (by dsimp only; omega) (.bool false))⟩)
      simp [go_sem, hu, (Blks.cell hHB 2 rfl 0), (Blks.cell hHB 2 rfl 1), (Blks.cell hHB 2 rfl 2), (Blks.free hHB 2 rfl 0), (Blks.free hHB 2 rfl 1), (Blks.free hHB 2 rfl 2)]
     ·
      simp only [List.getElem?_toArray, List.getElem?_cons_succ, List.getElem?_cons_zero, Option.some.injEq] at ho
      subst ho
      replace hf : b11 = false := hf
      have d0 : b0 = true := hd ⟨0, .phase⟩ (by simp) rfl
      have d1 : b1 = true := hd ⟨1, .phase⟩ (by simp) rfl
      have d2 : b2 = true := hd ⟨2, .phase⟩ (by simp) rfl
      have d3 : b3 = true := hd ⟨3, .phase⟩ (by simp) rfl
      have d4 : b4 = true := hd ⟨4, .phase⟩ (by simp) rfl
      have d5 : b5 = true := hd ⟨5, .phase⟩ (by simp) rfl
      have d6 : b6 = true := hd ⟨6, .phase⟩ (by simp) rfl
      have d7 : b7 = true := hd ⟨7, .phase⟩ (by simp) rfl
      have d8 : b8 = true := hd ⟨8, .phase⟩ (by simp) rfl
      have d9 : b9 = true := hd ⟨9, .data⟩ (by simp) rfl
      have d10 : b10 = true := hd ⟨10, .chain⟩ (by simp) rfl
      subst d0
      subst d1
      subst d2
      subst d3
      subst d4
      subst d5
      subst d6
      subst d7
      subst d8
      subst d9
      subst d10
      subst hf
      refine Go.Proofs.YtbmklpcheopgoaaReg.op_skip ho2 rfl (w1 := (((W'.setCell ⟨(w.heap.size + 1 + 1), 0, none⟩ (.int .i64 ((rd_T33 pts i).f0))).setCell ⟨(w.heap.size + 1 + 1), 1, none⟩ (.int .i64 ((rd_T33 pts i).f1))).setCell ⟨(w.heap.size + 1 + 1), 2, none⟩ (.bool false))) ?_ (hK _ _ ⟨true, true, true, true, true, true, true, true, true, true, true, true, rfl, rfl, (Blks.set (Blks.set (Blks.set hHB 1 rfl 0 (.int .i64 ((rd_T33 pts i).f0))) 1 rfl 1 (.int .i64 ((rd_T33 pts i).f1))) 1 rfl 2 (.bool false)), (Below.setCell (Below.setCell (Below.setCell hHW (by dsimp only; omega) (.int .i64 ((rd_T33 pts i).f0))) (by dsimp only; omega) (.int .i64 ((rd_T33 pts i).f1))) (by dsimp only; omega) (.bool false))⟩)
      simp [go_sem, hu, (Blks.cell hHB 1 rfl 0), (Blks.cell hHB 1 rfl 1), (Blks.cell hHB 1 rfl 2), (Blks.free hHB 1 rfl 0), (Blks.free hHB 1 rfl 1), (Blks.free hHB 1 rfl 2)]
    ·
     rintro lst a W' ⟨b0, b1, b2, b3, b4, b5, b6, b7, b8, b9, b10, b11, rfl, rfl, hHB, hHW⟩ hall
     have a0 : b0 = true := hall 0 (by decide)
     have a1 : b1 = true := hall 1 (by decide)
     have a2 : b2 = true := hall 2 (by decide)
     have a3 : b3 = true := hall 3 (by decide)
     have a4 : b4 = true := hall 4 (by decide)
     have a5 : b5 = true := hall 5 (by decide)
     have a6 : b6 = true := hall 6 (by decide)
     have a7 : b7 = true := hall 7 (by decide)
     have a8 : b8 = true := hall 8 (by decide)
     have a9 : b9 = true := hall 9 (by decide)
     have a10 : b10 = true := hall 10 (by decide)
     have a11 : b11 = true := hall 11 (by decide)
     subst a0 a1 a2 a3 a4 a5 a6 a7 a8 a9 a10 a11
     clear hall
     have HB : Blks [(wr.heap.size, .cells #[.int .i64 ((rd_T33 pts i).f0), .int .i64 ((rd_T33 pts i).f1), .bool (rd_T33 pts i).f2] 33 (0, 0)), ((w.heap.size + 1 + 1), .cells #[.int .i64 ((rd_T33 pts i).f0), .int .i64 ((rd_T33 pts i).f1), .bool false] 33 (0, 0)), ((w.heap.size + 1), .cells #[.int .i64 ((rd_T33 pts i).f0), .int .i64 ((rd_T33 pts i).f1), .bool false] 33 (0, 0)), (w.heap.size, .cells #[.slice (some ad0) pts.length c0, v1] 25 (0, 0))] W' := hHB
     have HW : Below w.heap.size w W' := hHW
     clear hHB hHW
     go_wp2
     refine Go.Proofs.YtbmklpcheopgoaaReg.reg_inv (by rfl) [0, 1, 2, 3, 4, 5, 6, 7, 8, 9, 10, 11, 12, 13] (by kernel_rfl) (by kernel_rfl)
      (fun lst a W' => ∃ (b0 b1 b2 b3 b4 b5 b6 b7 b8 b9 b10 b11 b12 b13 : Bool), lst = #[b0, b1, b2, b3, b4, b5, b6, b7, b8, b9, b10, b11, b12, b13] ∧ a = ⟨#[.agg #[.slice (some ad0) pts.length c0, v1], .pointer (some ⟨w.heap.size, 0, none⟩), .pointer (some ⟨(w.heap.size + 1), 0, none⟩), .pointer (some ⟨(w.heap.size + 1 + 1), 0, none⟩), .bool false, .int .i64 i, .pointer (some ⟨wr.heap.size, 0, none⟩), .pointer (some ⟨w.heap.size, 0, none⟩), .slice (some ad0) pts.length c0, .int .i64 pts.length, .int .i64 i, .bool true, .int .i64 i, .pointer (some (ad0.add (i * 3))), .agg #[.int .i64 (rd_T33 pts i).f0, .int .i64 (rd_T33 pts i).f1, .bool (rd_T33 pts i).f2], .int .i64 i, .bool true, .pointer (some ⟨wr.heap.size, 0, none⟩), .int .i64 ((rd_T33 pts i).f0), .pointer (some ⟨wr.heap.size, 1, none⟩), .int .i64 ((rd_T33 pts i).f1), .agg #[.int .i64 ((rd_T33 pts i).f0), .int .i64 ((rd_T33 pts i).f1), .bool false], .pointer (some ⟨wr.heap.size, 0, none⟩), .int .i64 ((rd_T33 pts i).f0), .pointer (some ⟨wr.heap.size, 1, none⟩), .int .i64 ((rd_T33 pts i).f1), .agg #[.int .i64 ((rd_T33 pts i).f0), .int .i64 ((rd_T33 pts i).f1), .bool false], (cond b0 (.pointer (some ⟨(w.heap.size + 1), 0, none⟩)) u27), (cond b1 (.int .i64 ((rd_T33 pts i).f0)) u28), (cond b2 (.pointer (some ⟨wr.heap.size, 0, none⟩)) u29), (cond b3 (.int .i64 ((rd_T33 pts i).f0)) u30), (cond b4 (.int .i64 (min ((rd_T33 pts i).f0) ((rd_T33 pts i).f0))) u31), (cond b5 (.pointer (some ⟨(w.heap.size + 1), 1, none⟩)) u32), (cond b6 (.int .i64 ((rd_T33 pts i).f1)) u33), (cond b7 (.pointer (some ⟨wr.heap.size, 1, none⟩)) u34), (cond b8 (.int .i64 ((rd_T33 pts i).f1)) u35), (cond b9 (.int .i64 (min ((rd_T33 pts i).f1) ((rd_T33 pts i).f1))) u36), (cond b10 (.pointer (some ⟨(w.heap.size + 1), 0, none⟩)) u37), (cond b12 (.pointer (some ⟨(w.heap.size + 1), 1, none⟩)) u38), u39, u40, u41, u42, u43, u44, u45, u46, u47, u48, u49, u50, u51, undef, undef, undef, undef, undef, undef], []⟩ ∧ (b11 = true → b1 = true) ∧ (b13 = true → b6 = true) ∧ (Blks [(wr.heap.size, .cells #[.int .i64 ((rd_T33 pts i).f0), .int .i64 ((rd_T33 pts i).f1), .bool (rd_T33 pts i).f2] 33 (0, 0)), ((w.heap.size + 1 + 1), .cells #[.int .i64 ((rd_T33 pts i).f0), .int .i64 ((rd_T33 pts i).f1), .bool false] 33 (0, 0)), ((w.heap.size + 1), .cells #[cond b11 (.int .i64 (min ((rd_T33 pts i).f0) ((rd_T33 pts i).f0))) (.int .i64 ((rd_T33 pts i).f0)), cond b13 (.int .i64 (min ((rd_T33 pts i).f1) ((rd_T33 pts i).f1))) (.int .i64 ((rd_T33 pts i).f1)), .bool false] 33 (0, 0)), (w.heap.size, .cells #[.slice (some ad0) pts.length c0, v1] 25 (0, 0))] W') ∧ (Below w.heap.size w W')) ?_ ?_ ?_ ?_
     ·
      rintro lst a W' ⟨b0, b1, b2, b3, b4, b5, b6, b7, b8, b9, b10, b11, b12, b13, rfl, _⟩
      rfl
     ·
      exact ⟨false, false, false, false, false, false, false, false, false, false, false, false, false, false, rfl, rfl, (fun h => Bool.noConfusion h), (fun h => Bool.noConfusion h), HB.drew, below_drew HW⟩
     ·
      rintro lst a W' i o ⟨b0, b1, b2, b3, b4, b5, b6, b7, b8, b9, b10, b11, b12, b13, rfl, rfl, k0, k1, hHB, hHW⟩ ho hf hd K hK
      have hi : i < 14 := (Array.getElem?_eq_some_iff.1 ho).1
      have ho2 := ho
      rcases (show i = 0 ∨ i = 1 ∨ i = 2 ∨ i = 3 ∨ i = 4 ∨ i = 5 ∨ i = 6 ∨ i = 7 ∨ i = 8 ∨ i = 9 ∨ i = 10 ∨ i = 11 ∨ i = 12 ∨ i = 13 by omega) with rfl | rfl | rfl | rfl | rfl | rfl | rfl | rfl | rfl | rfl | rfl | rfl | rfl | rfl
      ·
       simp only [List.getElem?_toArray, List.getElem?_cons_succ, List.getElem?_cons_zero, Option.some.injEq] at ho
       subst ho
       replace hf : b0 = false := hf
       subst hf
       refine Go.Proofs.YtbmklpcheopgoaaReg.op_val ho2 rfl (v := .pointer (some ⟨(w.heap.size + 1), 0, none⟩)) (w1 := W') ?_ (hK _ _ ⟨true, b1, b2, b3, b4, b5, b6, b7, b8, b9, b10, b11, b12, b13, rfl, rfl, (k0), (k1), hHB, hHW⟩)
       simp [go_sem, hu]
      ·
       simp only [List.getElem?_toArray, List.getElem?_cons_succ, List.getElem?_cons_zero, Option.some.injEq] at ho
       subst ho
       replace hf : b1 = false := hf
       have d0 : b0 = true := hd ⟨0, .data⟩ (by simp) rfl
       subst d0
       have n11 : b11 = false := Bool.eq_false_iff.mpr (fun h => absurd (k0 h) (by rw [hf]; decide))
       subst n11
       subst hf
       refine Go.Proofs.YtbmklpcheopgoaaReg.op_val ho2 rfl (v := .int .i64 ((rd_T33 pts i).f0)) (w1 := W') ?_ (hK _ _ ⟨true, true, b2, b3, b4, b5, b6, b7, b8, b9, b10, false, b12, b13, rfl, rfl, (fun _ => rfl), (k1), hHB, hHW⟩)
       simp [go_sem, hu, (Blks.cell hHB 2 rfl 0)]
      ·
       simp only [List.getElem?_toArray, List.getElem?_cons_succ, List.getElem?_cons_zero, Option.some.injEq] at ho
       subst ho
       replace hf : b2 = false := hf
       subst hf
       refine Go.Proofs.YtbmklpcheopgoaaReg.op_val ho2 rfl (v := .pointer (some ⟨wr.heap.size, 0, none⟩)) (w1 := W') ?_ (hK _ _ ⟨b0, b1, true, b3, b4, b5, b6, b7, b8, b9, b10, b11, b12, b13, rfl, rfl, (k0), (k1), hHB, hHW⟩)
       simp [go_sem, hu]
      ·
       simp only [List.getElem?_toArray, List.getElem?_cons_succ, List.getElem?_cons_zero, Option.some.injEq] at ho
       subst ho
       replace hf : b3 = false := hf
       have d2 : b2 = true := hd ⟨2, .data⟩ (by simp) rfl
       subst d2
       subst hf
       refine Go.Proofs.YtbmklpcheopgoaaReg.op_val ho2 rfl (v := .int .i64 ((rd_T33 pts i).f0)) (w1 := W') ?_ (hK _ _ ⟨b0, b1, true, true, b4, b5, b6, b7, b8, b9, b10, b11, b12, b13, rfl, rfl, (k0), (k1), hHB, hHW⟩)
       simp [go_sem, hu, (Blks.cell hHB 0 rfl 0)]
      ·
       simp only [List.getElem?_toArray, List.getElem?_cons_succ, List.getElem?_cons_zero, Option.some.injEq] at ho
       subst ho
       replace hf : b4 = false := hf
       have d1 : b1 = true := hd ⟨1, .data⟩ (by simp) rfl
       have d3 : b3 = true := hd ⟨3, .data⟩ (by simp) rfl
       subst d1
       subst d3
       subst hf
       refine Go.Proofs.YtbmklpcheopgoaaReg.op_val ho2 rfl (v := .int .i64 (min ((rd_T33 pts i).f0) ((rd_T33 pts i).f0))) (w1 := W') ?_ (hK _ _ ⟨b0, true, b2, true, true, b5, b6, b7, b8, b9, b10, b11, b12, b13, rfl, rfl, (fun _ => rfl), (k1), hHB, hHW⟩)
       simp [go_sem, hu] <;> omega
      ·
       simp only [List.getElem?_toArray, List.getElem?_cons_succ, List.getElem?_cons_zero, Option.some.injEq] at ho
       subst ho
       replace hf : b5 = false := hf
       subst hf
       refine Go.Proofs.YtbmklpcheopgoaaReg.op_val ho2 rfl (v := .pointer (some ⟨(w.heap.size + 1), 1, none⟩)) (w1 := W') ?_ (hK _ _ ⟨b0, b1, b2, b3, b4, true, b6, b7, b8, b9, b10, b11, b12, b13, rfl, rfl, (k0), (k1), hHB, hHW⟩)
       simp [go_sem, hu]
      ·
       simp only [List.getElem?_toArray, List.getElem?_cons_succ, List.getElem?_cons_zero, Option.some.injEq] at ho
       subst ho
       replace hf : b6 = false := hf
       have d5 : b5 = true := hd ⟨5, .data⟩ (by simp) rfl
       subst d5
       have n13 : b13 = false := Bool.eq_false_iff.mpr (fun h => absurd (k1 h) (by rw [hf]; decide))
       subst n13
       subst hf
       refine Go.Proofs.YtbmklpcheopgoaaReg.op_val ho2 rfl (v := .int .i64 ((rd_T33 pts i).f1)) (w1 := W') ?_ (hK _ _ ⟨b0, b1, b2, b3, b4, true, true, b7, b8, b9, b10, b11, b12, false, rfl, rfl, (k0), (fun _ => rfl), hHB, hHW⟩)
       simp [go_sem, hu, (Blks.cell hHB 2 rfl 1)]
      ·
       simp only [List.getElem?_toArray, List.getElem?_cons_succ, List.getElem?_cons_zero, Option.some.injEq] at ho
       subst ho
       replace hf : b7 = false := hf
       subst hf
       refine Go.Proofs.YtbmklpcheopgoaaReg.op_val ho2 rfl (v := .pointer (some ⟨wr.heap.size, 1, none⟩)) (w1 := W') ?_ (hK _ _ ⟨b0, b1, b2, b3, b4, b5, b6, true, b8, b9, b10, b11, b12, b13, rfl, rfl, (k0), (k1), hHB, hHW⟩)
       simp [go_sem, hu]
      ·
       simp only [List.getElem?_toArray, List.getElem?_cons_succ, List.getElem?_cons_zero, Option.some.injEq] at ho
       subst ho
       replace hf : b8 = false := hf
       have d7 : b7 = true := hd ⟨7, .data⟩ (by simp) rfl
       subst d7
       subst hf
       refine Go.Proofs.YtbmklpcheopgoaaReg.op_val ho2 rfl (v := .int .i64 ((rd_T33 pts i).f1)) (w1 := W') ?_ (hK _ _ ⟨b0, b1, b2, b3, b4, b5, b6, true, true, b9, b10, b11, b12, b13, rfl, rfl, (k0), (k1), hHB, hHW⟩)
       simp [go_sem, hu, (Blks.cell hHB 0 rfl 1)]
      ·
       simp only [List.getElem?_toArray, List.getElem?_cons_succ, List.getElem?_cons_zero, Option.some.injEq] at ho
       subst ho
       replace hf : b9 = false := hf
       have d6 : b6 = true := hd ⟨6, .data⟩ (by simp) rfl
       have d8 : b8 = true := hd ⟨8, .data⟩ (by simp) rfl
       subst d6
       subst d8
       subst hf
       refine Go.Proofs.YtbmklpcheopgoaaReg.op_val ho2 rfl (v := .int .i64 (min ((rd_T33 pts i).f1) ((rd_T33 pts i).f1))) (w1 := W') ?_ (hK _ _ ⟨b0, b1, b2, b3, b4, b5, true, b7, true, true, b10, b11, b12, b13, rfl, rfl, (k0), (fun _ => rfl), hHB, hHW⟩)
       simp [go_sem, hu] <;> omega
      ·
       simp only [List.getElem?_toArray, List.getElem?_cons_succ, List.getElem?_cons_zero, Option.some.injEq] at ho
       subst ho
       replace hf : b10 = false := hf
       have d0 : b0 = true := hd ⟨0, .phase⟩ (by simp) rfl
       have d1 : b1 = true := hd ⟨1, .phase⟩ (by simp) rfl
       have d2 : b2 = true := hd ⟨2, .phase⟩ (by simp) rfl
       have d3 : b3 = true := hd ⟨3, .phase⟩ (by simp) rfl
       have d4 : b4 = true := hd ⟨4, .phase⟩ (by simp) rfl
       have d5 : b5 = true := hd ⟨5, .phase⟩ (by simp) rfl
       have d6 : b6 = true := hd ⟨6, .phase⟩ (by simp) rfl
       subst d0
       subst d1
       subst d2
       subst d3
       subst d4
       subst d5
       subst d6
       subst hf
       refine Go.Proofs.YtbmklpcheopgoaaReg.op_val ho2 rfl (v := .pointer (some ⟨(w.heap.size + 1), 0, none⟩)) (w1 := W') ?_ (hK _ _ ⟨true, true, true, true, true, true, true, b7, b8, b9, true, b11, b12, b13, rfl, rfl, (fun _ => rfl), (fun _ => rfl), hHB, hHW⟩)
       simp [go_sem, hu]
      ·
       simp only [List.getElem?_toArray, List.getElem?_cons_succ, List.getElem?_cons_zero, Option.some.injEq] at ho
       subst ho
       replace hf : b11 = false := hf
       have d0 : b0 = true := hd ⟨0, .phase⟩ (by simp) rfl
       have d1 : b1 = true := hd ⟨1, .phase⟩ (by simp) rfl
       have d2 : b2 = true := hd ⟨2, .phase⟩ (by simp) rfl
       have d3 : b3 = true := hd ⟨3, .phase⟩ (by simp) rfl
       have d4 : b4 = true := hd ⟨4, .data⟩ (by simp) rfl
       have d5 : b5 = true := hd ⟨5, .phase⟩ (by simp) rfl
       have d6 : b6 = true := hd ⟨6, .phase⟩ (by simp) rfl
       have d10 : b10 = true := hd ⟨10, .data⟩ (by simp) rfl
       subst d0
       subst d1
       subst d2
       subst d3
       subst d4
       subst d5
       subst d6
       subst d10
       subst hf
       refine Go.Proofs.YtbmklpcheopgoaaReg.op_skip ho2 rfl (w1 := W'.setCell ⟨(w.heap.size + 1), 0, none⟩ (.int .i64 (min ((rd_T33 pts i).f0) ((rd_T33 pts i).f0)))) ?_ (hK _ _ ⟨true, true, true, true, true, true, true, b7, b8, b9, true, true, b12, b13, rfl, rfl, (fun _ => rfl), (fun _ => rfl), Blks.set hHB 2 rfl 0 (.int .i64 (min ((rd_T33 pts i).f0) ((rd_T33 pts i).f0))), (Below.setCell hHW (by dsimp only; omega) (.int .i64 (min ((rd_T33 pts i).f0) ((rd_T33 pts i).f0))))⟩)
       simp [go_sem, hu, (Blks.cell hHB 2 rfl 0), (Blks.free hHB 2 rfl 0)]
      ·
       simp only [List.getElem?_toArray, List.getElem?_cons_succ, List.getElem?_cons_zero, Option.some.injEq] at ho
       subst ho
       replace hf : b12 = false := hf
       have d0 : b0 = true := hd ⟨0, .phase⟩ (by simp) rfl
       have d1 : b1 = true := hd ⟨1, .phase⟩ (by simp) rfl
       have d2 : b2 = true := hd ⟨2, .phase⟩ (by simp) rfl
       have d3 : b3 = true := hd ⟨3, .phase⟩ (by simp) rfl
       have d4 : b4 = true := hd ⟨4, .phase⟩ (by simp) rfl
       have d5 : b5 = true := hd ⟨5, .phase⟩ (by simp) rfl
       have d6 : b6 = true := hd ⟨6, .phase⟩ (by simp) rfl
       have d7 : b7 = true := hd ⟨7, .phase⟩ (by simp) rfl
       have d8 : b8 = true := hd ⟨8, .phase⟩ (by simp) rfl
       have d9 : b9 = true := hd ⟨9, .phase⟩ (by simp) rfl
       have d10 : b10 = true := hd ⟨10, .phase⟩ (by simp) rfl
       have d11 : b11 = true := hd ⟨11, .phase⟩ (by simp) rfl
       subst d0
       subst d1
       subst d2
       subst d3
       subst d4
       subst d5
       subst d6
       subst d7
       subst d8
       subst d9
       subst d10
       subst d11
       subst hf
       refine Go.Proofs.YtbmklpcheopgoaaReg.op_val ho2 rfl (v := .pointer (some ⟨(w.heap.size + 1), 1, none⟩)) (w1 := W') ?_ (hK _ _ ⟨true, true, true, true, true, true, true, true, true, true, true, true, true, b13, rfl, rfl, (fun _ => rfl), (fun _ => rfl), hHB, hHW⟩)
       simp [go_sem, hu]
      ·
       simp only [List.getElem?_toArray, List.getElem?_cons_succ, List.getElem?_cons_zero, Option.some.injEq] at ho
       subst ho
       replace hf : b13 = false := hf
       have d0 : b0 = true := hd ⟨0, .phase⟩ (by simp) rfl
       have d1 : b1 = true := hd ⟨1, .phase⟩ (by simp) rfl
       have d2 : b2 = true := hd ⟨2, .phase⟩ (by simp) rfl
       have d3 : b3 = true := hd ⟨3, .phase⟩ (by simp) rfl
       have d4 : b4 = true := hd ⟨4, .phase⟩ (by simp) rfl
       have d5 : b5 = true := hd ⟨5, .phase⟩ (by simp) rfl
       have d6 : b6 = true := hd ⟨6, .phase⟩ (by simp) rfl
       have d7 : b7 = true := hd ⟨7, .phase⟩ (by simp) rfl
       have d8 : b8 = true := hd ⟨8, .phase⟩ (by simp) rfl
       have d9 : b9 = true := hd ⟨9, .data⟩ (by simp) rfl
       have d10 : b10 = true := hd ⟨10, .phase⟩ (by simp) rfl
       have d11 : b11 = true := hd ⟨11, .chain⟩ (by simp) rfl
       have d12 : b12 = true := hd ⟨12, .data⟩ (by simp) rfl
       subst d0
       subst d1
       subst d2
       subst d3
       subst d4
       subst d5
       subst d6
       subst d7
       subst d8
       subst d9
       subst d10
       subst d11
       subst d12
       subst hf
       refine Go.Proofs.YtbmklpcheopgoaaReg.op_skip ho2 rfl (w1 := W'.setCell ⟨(w.heap.size + 1), 1, none⟩ (.int .i64 (min ((rd_T33 pts i).f1) ((rd_T33 pts i).f1)))) ?_ (hK _ _ ⟨true, true, true, true, true, true, true, true, true, true, true, true, true, true, rfl, rfl, (fun _ => rfl), (fun _ => rfl), Blks.set hHB 2 rfl 1 (.int .i64 (min ((rd_T33 pts i).f1) ((rd_T33 pts i).f1))), (Below.setCell hHW (by dsimp only; omega) (.int .i64 (min ((rd_T33 pts i).f1) ((rd_T33 pts i).f1))))⟩)
       simp [go_sem, hu, (Blks.cell hHB 2 rfl 1), (Blks.free hHB 2 rfl 1)]
     ·
      rintro lst a W' ⟨b0, b1, b2, b3, b4, b5, b6, b7, b8, b9, b10, b11, b12, b13, rfl, rfl, k0, k1, hHB, hHW⟩ hall
      have a0 : b0 = true := hall 0 (by decide)
      have a1 : b1 = true := hall 1 (by decide)
      have a2 : b2 = true := hall 2 (by decide)
      have a3 : b3 = true := hall 3 (by decide)
      have a4 : b4 = true := hall 4 (by decide)
      have a5 : b5 = true := hall 5 (by decide)
      have a6 : b6 = true := hall 6 (by decide)
      have a7 : b7 = true := hall 7 (by decide)
      have a8 : b8 = true := hall 8 (by decide)
      have a9 : b9 = true := hall 9 (by decide)
      have a10 : b10 = true := hall 10 (by decide)
      have a11 : b11 = true := hall 11 (by decide)
      have a12 : b12 = true := hall 12 (by decide)
      have a13 : b13 = true := hall 13 (by decide)
      subst a0 a1 a2 a3 a4 a5 a6 a7 a8 a9 a10 a11 a12 a13
      clear k0 k1
      clear hall
      have HB : Blks [(wr.heap.size, .cells #[.int .i64 ((rd_T33 pts i).f0), .int .i64 ((rd_T33 pts i).f1), .bool (rd_T33 pts i).f2] 33 (0, 0)), ((w.heap.size + 1 + 1), .cells #[.int .i64 ((rd_T33 pts i).f0), .int .i64 ((rd_T33 pts i).f1), .bool false] 33 (0, 0)), ((w.heap.size + 1), .cells #[.int .i64 (min ((rd_T33 pts i).f0) ((rd_T33 pts i).f0)), .int .i64 (min ((rd_T33 pts i).f1) ((rd_T33 pts i).f1)), .bool false] 33 (0, 0)), (w.heap.size, .cells #[.slice (some ad0) pts.length c0, v1] 25 (0, 0))] W' := hHB
      have HW : Below w.heap.size w W' := hHW
      clear hHB hHW
      go_wp2
      refine Go.Proofs.YtbmklpcheopgoaaReg.reg_inv (by rfl) [0, 1, 2, 3, 4, 5, 6, 7, 8, 9, 10, 11, 12, 13] (by kernel_rfl) (by kernel_rfl)
       (fun lst a W' => ∃ (b0 b1 b2 b3 b4 b5 b6 b7 b8 b9 b10 b11 b12 b13 : Bool), lst = #[b0, b1, b2, b3, b4, b5, b6, b7, b8, b9, b10, b11, b12, b13] ∧ a = ⟨#[.agg #[.slice (some ad0) pts.length c0, v1], .pointer (some ⟨w.heap.size, 0, none⟩), .pointer (some ⟨(w.heap.size + 1), 0, none⟩), .pointer (some ⟨(w.heap.size + 1 + 1), 0, none⟩), .bool false, .int .i64 i, .pointer (some ⟨wr.heap.size, 0, none⟩), .pointer (some ⟨w.heap.size, 0, none⟩), .slice (some ad0) pts.length c0, .int .i64 pts.length, .int .i64 i, .bool true, .int .i64 i, .pointer (some (ad0.add (i * 3))), .agg #[.int .i64 (rd_T33 pts i).f0, .int .i64 (rd_T33 pts i).f1, .bool (rd_T33 pts i).f2], .int .i64 i, .bool true, .pointer (some ⟨wr.heap.size, 0, none⟩), .int .i64 ((rd_T33 pts i).f0), .pointer (some ⟨wr.heap.size, 1, none⟩), .int .i64 ((rd_T33 pts i).f1), .agg #[.int .i64 ((rd_T33 pts i).f0), .int .i64 ((rd_T33 pts i).f1), .bool false], .pointer (some ⟨wr.heap.size, 0, none⟩), .int .i64 ((rd_T33 pts i).f0), .pointer (some ⟨wr.heap.size, 1, none⟩), .int .i64 ((rd_T33 pts i).f1), .agg #[.int .i64 ((rd_T33 pts i).f0), .int .i64 ((rd_T33 pts i).f1), .bool false], .pointer (some ⟨(w.heap.size + 1), 0, none⟩), .int .i64 ((rd_T33 pts i).f0), .pointer (some ⟨wr.heap.size, 0, none⟩), .int .i64 ((rd_T33 pts i).f0), .int .i64 (min ((rd_T33 pts i).f0) ((rd_T33 pts i).f0)), .pointer (some ⟨(w.heap.size + 1), 1, none⟩), .int .i64 ((rd_T33 pts i).f1), .pointer (some ⟨wr.heap.size, 1, none⟩), .int .i64 ((rd_T33 pts i).f1), .int .i64 (min ((rd_T33 pts i).f1) ((rd_T33 pts i).f1)), .pointer (some ⟨(w.heap.size + 1), 0, none⟩), .pointer (some ⟨(w.heap.size + 1), 1, none⟩), (cond b0 (.pointer (some ⟨(w.heap.size + 1 + 1), 0, none⟩)) u39), (cond b1 (.int .i64 ((rd_T33 pts i).f0)) u40), (cond b2 (.pointer (some ⟨wr.heap.size, 0, none⟩)) u41), (cond b3 (.int .i64 ((rd_T33 pts i).f0)) u42), (cond b4 (.int .i64 (max ((rd_T33 pts i).f0) ((rd_T33 pts i).f0))) u43), (cond b5 (.pointer (some ⟨(w.heap.size + 1 + 1), 1, none⟩)) u44), (cond b6 (.int .i64 ((rd_T33 pts i).f1)) u45), (cond b7 (.pointer (some ⟨wr.heap.size, 1, none⟩)) u46), (cond b8 (.int .i64 ((rd_T33 pts i).f1)) u47), (cond b9 (.int .i64 (max ((rd_T33 pts i).f1) ((rd_T33 pts i).f1))) u48), (cond b10 (.pointer (some ⟨(w.heap.size + 1 + 1), 0, none⟩)) u49), (cond b12 (.pointer (some ⟨(w.heap.size + 1 + 1), 1, none⟩)) u50), u51, undef, undef, undef, undef, undef, undef], []⟩ ∧ (b11 = true → b1 = true) ∧ (b13 = true → b6 = true) ∧ (Blks [(wr.heap.size, .cells #[.int .i64 ((rd_T33 pts i).f0), .int .i64 ((rd_T33 pts i).f1), .bool (rd_T33 pts i).f2] 33 (0, 0)), ((w.heap.size + 1 + 1), .cells #[cond b11 (.int .i64 (max ((rd_T33 pts i).f0) ((rd_T33 pts i).f0))) (.int .i64 ((rd_T33 pts i).f0)), cond b13 (.int .i64 (max ((rd_T33 pts i).f1) ((rd_T33 pts i).f1))) (.int .i64 ((rd_T33 pts i).f1)), .bool false] 33 (0, 0)), ((w.heap.size + 1), .cells #[.int .i64 (min ((rd_T33 pts i).f0) ((rd_T33 pts i).f0)), .int .i64 (min ((rd_T33 pts i).f1) ((rd_T33 pts i).f1)), .bool false] 33 (0, 0)), (w.heap.size, .cells #[.slice (some ad0) pts.length c0, v1] 25 (0, 0))] W') ∧ (Below w.heap.size w W')) ?_ ?_ ?_ ?_
      ·
       rintro lst a W' ⟨b0, b1, b2, b3, b4, b5, b6, b7, b8, b9, b10, b11, b12, b13, rfl, _⟩
       rfl
      ·
       exact ⟨false, false, false, false, false, false, false, false, false, false, false, false, false, false, rfl, rfl, (fun h => Bool.noConfusion h), (fun h => Bool.noConfusion h), HB.drew, below_drew HW⟩
      ·
       rintro lst a W' i o ⟨b0, b1, b2, b3, b4, b5, b6, b7, b8, b9, b10, b11, b12, b13, rfl, rfl, k0, k1, hHB, hHW⟩ ho hf hd K hK
       have hi : i < 14 := (Array.getElem?_eq_some_iff.1 ho).1
       have ho2 := ho
       rcases (show i = 0 ∨ i = 1 ∨ i = 2 ∨ i = 3 ∨ i = 4 ∨ i = 5 ∨ i = 6 ∨ i = 7 ∨ i = 8 ∨ i = 9 ∨ i = 10 ∨ i = 11 ∨ i = 12 ∨ i = 13 by omega) with rfl | rfl | rfl | rfl | rfl | rfl | rfl | rfl | rfl | rfl | rfl | rfl | rfl | rfl
       ·
        simp only [List.getElem?_toArray, List.getElem?_cons_succ, List.getElem?_cons_zero, Option.some.injEq] at ho
        subst ho
        replace hf : b0 = false := hf
        subst hf
        refine Go.Proofs.YtbmklpcheopgoaaReg.op_val ho2 rfl (v := .pointer (some ⟨(w.heap.size + 1 + 1), 0, none⟩)) (w1 := W') ?_ (hK _ _ ⟨true, b1, b2, b3, b4, b5, b6, b7, b8, b9, b10, b11, b12, b13, rfl, rfl, (k0), (k1), hHB, hHW⟩)
        simp [go_sem, hu]
       ·
        simp only [List.getElem?_toArray, List.getElem?_cons_succ, List.getElem?_cons_zero, Option.some.injEq] at ho
        subst ho
        replace hf : b1 = false := hf
        have d0 : b0 = true := hd ⟨0, .data⟩ (by simp) rfl
        subst d0
        have n11 : b11 = false := Bool.eq_false_iff.mpr (fun h => absurd (k0 h) (by rw [hf]; decide))
        subst n11
        subst hf
        refine Go.Proofs.YtbmklpcheopgoaaReg.op_val ho2 rfl (v := .int .i64 ((rd_T33 pts i).f0)) (w1 := W') ?_ (hK _ _ ⟨true, true, b2, b3, b4, b5, b6, b7, b8, b9, b10, false, b12, b13, rfl, rfl, (fun _ => rfl), (k1), hHB, hHW⟩)
        simp [go_sem, hu, (Blks.cell hHB 1 rfl 0)]
       ·
        simp only [List.getElem?_toArray, List.getElem?_cons_succ, List.getElem?_cons_zero, Option.some.injEq] at ho
        subst ho
        replace hf : b2 = false := hf
        subst hf
        refine Go.Proofs.YtbmklpcheopgoaaReg.op_val ho2 rfl (v := .pointer (some ⟨wr.heap.size, 0, none⟩)) (w1 := W') ?_ (hK _ _ ⟨b0, b1, true, b3, b4, b5, b6, b7, b8, b9, b10, b11, b12, b13, rfl, rfl, (k0), (k1), hHB, hHW⟩)
        simp [go_sem, hu]
       ·
        simp only [List.getElem?_toArray, List.getElem?_cons_succ, List.getElem?_cons_zero, Option.some.injEq] at ho
        subst ho
        replace hf : b3 = false := hf
        have d2 : b2 = true := hd ⟨2, .data⟩ (by simp) rfl
        subst d2
        subst hf
        refine Go.Proofs.YtbmklpcheopgoaaReg.op_val ho2 rfl (v := .int .i64 ((rd_T33 pts i).f0)) (w1 := W') ?_ (hK _ _ ⟨b0, b1, true, true, b4, b5, b6, b7, b8, b9, b10, b11, b12, b13, rfl, rfl, (k0), (k1), hHB, hHW⟩)
        simp [go_sem, hu, (Blks.cell hHB 0 rfl 0)]
       ·
        simp only [List.getElem?_toArray, List.getElem?_cons_succ, List.getElem?_cons_zero, Option.some.injEq] at ho
        subst ho
        replace hf : b4 = false := hf
        have d1 : b1 = true := hd ⟨1, .data⟩ (by simp) rfl
        have d3 : b3 = true := hd ⟨3, .data⟩ (by simp) rfl
        subst d1
        subst d3
        subst hf
        refine Go.Proofs.YtbmklpcheopgoaaReg.op_val ho2 rfl (v := .int .i64 (max ((rd_T33 pts i).f0) ((rd_T33 pts i).f0))) (w1 := W') ?_ (hK _ _ ⟨b0, true, b2, true, true, b5, b6, b7, b8, b9, b10, b11, b12, b13, rfl, rfl, (fun _ => rfl), (k1), hHB, hHW⟩)
        simp [go_sem, hu] <;> omega
       ·
        simp only [List.getElem?_toArray, List.getElem?_cons_succ, List.getElem?_cons_zero, Option.some.injEq] at ho
        subst ho
        replace hf : b5 = false := hf
        subst hf
        refine Go.Proofs.YtbmklpcheopgoaaReg.op_val ho2 rfl (v := .pointer (some ⟨(w.heap.size + 1 + 1), 1, none⟩)) (w1 := W') ?_ (hK _ _ ⟨b0, b1, b2, b3, b4, true, b6, b7, b8, b9, b10, b11, b12, b13, rfl, rfl, (k0), (k1), hHB, hHW⟩)
        simp [go_sem, hu]
       ·
        simp only [List.getElem?_toArray, List.getElem?_cons_succ, List.getElem?_cons_zero, Option.some.injEq] at ho
        subst ho
        replace hf : b6 = false := hf
        have d5 : b5 = true := hd ⟨5, .data⟩ (by simp) rfl
        subst d5
        have n13 : b13 = false := Bool.eq_false_iff.mpr (fun h => absurd (k1 h) (by rw [hf]; decide))
        subst n13
        subst hf
        refine Go.Proofs.YtbmklpcheopgoaaReg.op_val ho2 rfl (v := .int .i64 ((rd_T33 pts i).f1)) (w1 := W') ?_ (hK _ _ ⟨b0, b1, b2, b3, b4, true, true, b7, b8, b9, b10, b11, b12, false, rfl, rfl, (k0), (fun _ => rfl), hHB, hHW⟩)
        simp [go_sem, hu, (Blks.cell hHB 1 rfl 1)]
       ·
        simp only [List.getElem?_toArray, List.getElem?_cons_succ, List.getElem?_cons_zero, Option.some.injEq] at ho
        subst ho
        replace hf : b7 = false := hf
        subst hf
        refine Go.Proofs.YtbmklpcheopgoaaReg.op_val ho2 rfl (v := .pointer (some ⟨wr.heap.size, 1, none⟩)) (w1 := W') ?_ (hK _ _ ⟨b0, b1, b2, b3, b4, b5, b6, true, b8, b9, b10, b11, b12, b13, rfl, rfl, (k0), (k1), hHB, hHW⟩)
        simp [go_sem, hu]
       ·
        simp only [List.getElem?_toArray, List.getElem?_cons_succ, List.getElem?_cons_zero, Option.some.injEq] at ho
        subst ho
        replace hf : b8 = false := hf
        have d7 : b7 = true := hd ⟨7, .data⟩ (by simp) rfl
        subst d7
        subst hf
        refine Go.Proofs.YtbmklpcheopgoaaReg.op_val ho2 rfl (v := .int .i64 ((rd_T33 pts i).f1)) (w1 := W') ?_ (hK _ _ ⟨b0, b1, b2, b3, b4, b5, b6, true, true, b9, b10, b11, b12, b13, rfl, rfl, (k0), (k1), hHB, hHW⟩)
        simp [go_sem, hu, (Blks.cell hHB 0 rfl 1)]
       ·
        simp only [List.getElem?_toArray, List.getElem?_cons_succ, List.getElem?_cons_zero, Option.some.injEq] at ho
        subst ho
        replace hf : b9 = false := hf
        have d6 : b6 = true := hd ⟨6, .data⟩ (by simp) rfl
        have d8 : b8 = true := hd ⟨8, .data⟩ (by simp) rfl
        subst d6
        subst d8
        subst hf
        refine Go.Proofs.YtbmklpcheopgoaaReg.op_val ho2 rfl (v := .int .i64 (max ((rd_T33 pts i).f1) ((rd_T33 pts i).f1))) (w1 := W') ?_ (hK _ _ ⟨b0, b1, b2, b3, b4, b5, true, b7, true, true, b10, b11, b12, b13, rfl, rfl, (k0), (fun _ => rfl), hHB, hHW⟩)
        simp [go_sem, hu] <;> omega
       ·
        simp only [List.getElem?_toArray, List.getElem?_cons_succ, List.getElem?_cons_zero, Option.some.injEq] at ho
        subst ho
        replace hf : b10 = false := hf
        have d0 : b0 = true := hd ⟨0, .phase⟩ (by simp) rfl
        have d1 : b1 = true := hd ⟨1, .phase⟩ (by simp) rfl
        have d2 : b2 = true := hd ⟨2, .phase⟩ (by simp) rfl
        have d3 : b3 = true := hd ⟨3, .phase⟩ (by simp) rfl
        have d4 : b4 = true := hd ⟨4, .phase⟩ (by simp) rfl
        have d5 : b5 = true := hd ⟨5, .phase⟩ (by simp) rfl
        have d6 : b6 = true := hd ⟨6, .phase⟩ (by simp) rfl
        subst d0
        subst d1
        subst d2
        subst d3
        subst d4
        subst d5
        subst d6
        subst hf
        refine Go.Proofs.YtbmklpcheopgoaaReg.op_val ho2 rfl (v := .pointer (some ⟨(w.heap.size + 1 + 1), 0, none⟩)) (w1 := W') ?_ (hK _ _ ⟨true, true, true, true, true, true, true, b7, b8, b9, true, b11, b12, b13, rfl, rfl, (fun _ => rfl), (fun _ => rfl), hHB, hHW⟩)
        simp [go_sem, hu]
       ·
        simp only [List.getElem?_toArray, List.getElem?_cons_succ, List.getElem?_cons_zero, Option.some.injEq] at ho
        subst ho
        replace hf : b11 = false := hf
        have d0 : b0 = true := hd ⟨0, .phase⟩ (by simp) rfl
        have d1 : b1 = true := hd ⟨1, .phase⟩ (by simp) rfl
        have d2 : b2 = true := hd ⟨2, .phase⟩ (by simp) rfl
        have d3 : b3 = true := hd ⟨3, .phase⟩ (by simp) rfl
        have d4 : b4 = true := hd ⟨4, .data⟩ (by simp) rfl
        have d5 : b5 = true := hd ⟨5, .phase⟩ (by simp) rfl
        have d6 : b6 = true := hd ⟨6, .phase⟩ (by simp) rfl
        have d10 : b10 = true := hd ⟨10, .data⟩ (by simp) rfl
        subst d0
        subst d1
        subst d2
        subst d3
        subst d4
        subst d5
        subst d6
        subst d10
        subst hf
        refine Go.Proofs.YtbmklpcheopgoaaReg.op_skip ho2 rfl (w1 := W'.setCell ⟨(w.heap.size + 1 + 1), 0, none⟩ (.int .i64 (max ((rd_T33 pts i).f0) ((rd_T33 pts i).f0)))) ?_ (hK _ _ ⟨true, true, true, true, true, true, true, b7, b8, b9, true, true, b12, b13, rfl, rfl, (fun _ => rfl), (fun _ => rfl), Blks.set hHB 1 rfl 0 (.int .i64 (max ((rd_T33 pts i).f0) ((rd_T33 pts i).f0))), (Below.setCell hHW (by dsimp only; omega) (.int .i64 (max ((rd_T33 pts i).f0) ((rd_T33 pts i).f0))))⟩)
        simp [go_sem, hu, (Blks.cell hHB 1 rfl 0), (Blks.free hHB 1 rfl 0)]
       ·
        simp only [List.getElem?_toArray, List.getElem?_cons_succ, List.getElem?_cons_zero, Option.some.injEq] at ho
        subst ho
        replace hf : b12 = false := hf
        have d0 : b0 = true := hd ⟨0, .phase⟩ (by simp) rfl
        have d1 : b1 = true := hd ⟨1, .phase⟩ (by simp) rfl
        have d2 : b2 = true := hd ⟨2, .phase⟩ (by simp) rfl
        have d3 : b3 = true := hd ⟨3, .phase⟩ (by simp) rfl
        have d4 : b4 = true := hd ⟨4, .phase⟩ (by simp) rfl
        have d5 : b5 = true := hd ⟨5, .phase⟩ (by simp) rfl
        have d6 : b6 = true := hd ⟨6, .phase⟩ (by simp) rfl
        have d7 : b7 = true := hd ⟨7, .phase⟩ (by simp) rfl
        have d8 : b8 = true := hd ⟨8, .phase⟩ (by simp) rfl
        have d9 : b9 = true := hd ⟨9, .phase⟩ (by simp) rfl
        have d10 : b10 = true := hd ⟨10, .phase⟩ (by simp) rfl
        have d11 : b11 = true := hd ⟨11, .phase⟩ (by simp) rfl
        subst d0
        subst d1
        subst d2
        subst d3
        subst d4
        subst d5
        subst d6
        subst d7
        subst d8
        subst d9
        subst d10
        subst d11
        subst hf
        refine Go.Proofs.YtbmklpcheopgoaaReg.op_val ho2 rfl (v := .pointer (some ⟨(w.heap.size + 1 + 1), 1, none⟩)) (w1 := W') ?_ (hK _ _ ⟨true, true, true, true, true, true, true, true, true, true, true, true, true, b13, rfl, rfl, (fun _ => rfl), (fun _ => rfl), hHB, hHW⟩)
        simp [go_sem, hu]
       ·
        simp only [List.getElem?_toArray, List.getElem?_cons_succ, List.getElem?_cons_zero, Option.some.injEq] at ho
        subst ho
        replace hf : b13 = false := hf
        have d0 : b0 = true := hd ⟨0, .phase⟩ (by simp) rfl
        have d1 : b1 = true := hd ⟨1, .phase⟩ (by simp) rfl
        have d2 : b2 = true := hd ⟨2, .phase⟩ (by simp) rfl
        have d3 : b3 = true := hd ⟨3, .phase⟩ (by simp) rfl
        have d4 : b4 = true := hd ⟨4, .phase⟩ (by simp) rfl
        have d5 : b5 = true := hd ⟨5, .phase⟩ (by simp) rfl
        have d6 : b6 = true := hd ⟨6, .phase⟩ (by simp) rfl
        have d7 : b7 = true := hd ⟨7, .phase⟩ (by simp) rfl
        have d8 : b8 = true := hd ⟨8, .phase⟩ (by simp) rfl
        have d9 : b9 = true := hd ⟨9, .data⟩ (by simp) rfl
        have d10 : b10 = true := hd ⟨10, .phase⟩ (by simp) rfl
        have d11 : b11 = true := hd ⟨11, .chain⟩ (by simp) rfl
        have d12 : b12 = true := hd ⟨12, .data⟩ (by simp) rfl
        subst d0
        subst d1
        subst d2
        subst d3
        subst d4
        subst d5
        subst d6
        subst d7
        subst d8
        subst d9
        subst d10
        subst d11
        subst d12
        subst hf
        refine Go.Proofs.YtbmklpcheopgoaaReg.op_skip ho2 rfl (w1 := W'.setCell ⟨(w.heap.size + 1 + 1), 1, none⟩ (.int .i64 (max ((rd_T33 pts i).f1) ((rd_T33 pts i).f1)))) ?_ (hK _ _ ⟨true, true, true, true, true, true, true, true, true, true, true, true, true, true, rfl, rfl, (fun _ => rfl), (fun _ => rfl), Blks.set hHB 1 rfl 1 (.int .i64 (max ((rd_T33 pts i).f1) ((rd_T33 pts i).f1))), (Below.setCell hHW (by dsimp only; omega) (.int .i64 (max ((rd_T33 pts i).f1) ((rd_T33 pts i).f1))))⟩)
        simp [go_sem, hu, (Blks.cell hHB 1 rfl 1), (Blks.free hHB 1 rfl 1)]
      ·
       rintro lst a W' ⟨b0, b1, b2, b3, b4, b5, b6, b7, b8, b9, b10, b11, b12, b13, rfl, rfl, k0, k1, hHB, hHW⟩ hall
       have a0 : b0 = true := hall 0 (by decide)
       have a1 : b1 = true := hall 1 (by decide)
       have a2 : b2 = true := hall 2 (by decide)
       have a3 : b3 = true := hall 3 (by decide)
       have a4 : b4 = true := hall 4 (by decide)
       have a5 : b5 = true := hall 5 (by decide)
       have a6 : b6 = true := hall 6 (by decide)
       have a7 : b7 = true := hall 7 (by decide)
       have a8 : b8 = true := hall 8 (by decide)
       have a9 : b9 = true := hall 9 (by decide)
       have a10 : b10 = true := hall 10 (by decide)
       have a11 : b11 = true := hall 11 (by decide)
       have a12 : b12 = true := hall 12 (by decide)
       have a13 : b13 = true := hall 13 (by decide)
       subst a0 a1 a2 a3 a4 a5 a6 a7 a8 a9 a10 a11 a12 a13
       clear k0 k1
       clear hall
       have HB : Blks [(wr.heap.size, .cells #[.int .i64 ((rd_T33 pts i).f0), .int .i64 ((rd_T33 pts i).f1), .bool (rd_T33 pts i).f2] 33 (0, 0)), ((w.heap.size + 1 + 1), .cells #[.int .i64 (max ((rd_T33 pts i).f0) ((rd_T33 pts i).f0)), .int .i64 (max ((rd_T33 pts i).f1) ((rd_T33 pts i).f1)), .bool false] 33 (0, 0)), ((w.heap.size + 1), .cells #[.int .i64 (min ((rd_T33 pts i).f0) ((rd_T33 pts i).f0)), .int .i64 (min ((rd_T33 pts i).f1) ((rd_T33 pts i).f1)), .bool false] 33 (0, 0)), (w.heap.size, .cells #[.slice (some ad0) pts.length c0, v1] 25 (0, 0))] W' := hHB
       have HW : Below w.heap.size w W' := hHW
       clear hHB hHW
       go_wp2
       go_roundw
       case rel =>
        refine ⟨i + 1, by omega, by simp, ⟨?_, HW⟩⟩
        have hst : boxSt pts (i + 1) = (⟨min ((rd_T33 pts i).f0) ((rd_T33 pts i).f0), min ((rd_T33 pts i).f1) ((rd_T33 pts i).f1), false⟩, ⟨max ((rd_T33 pts i).f0) ((rd_T33 pts i).f0), max ((rd_T33 pts i).f1) ((rd_T33 pts i).f1), false⟩) := by rw [boxSt_succ]; rw [HZ.out]; simp [boxStep]
        rw [hst]
        exact HB.tail
       case measure => simp [intOf]; omega
   ·
    have hz' : ((i : Int) == 0) = false := by simpa using hz
    have HZ := Lib.hid hz
    clear hz
    go_wp2
    replace HB := (HB.alloc (.cells #[.int .i64 (rd_T33 pts i).f0, .int .i64 (rd_T33 pts i).f1, .bool (rd_T33 pts i).f2] 33))
    replace HW := (HW.alloc HW.size (.cells #[.int .i64 (rd_T33 pts i).f0, .int .i64 (rd_T33 pts i).f1, .bool (rd_T33 pts i).f2] 33))
    refine Go.Proofs.YtbmklpcheopgoaaReg.reg_inv (by rfl) [0, 1, 2, 3, 4, 5, 6, 7, 8, 9, 10, 11, 12, 13] (by kernel_rfl) (by kernel_rfl)
     (fun lst a W' => ∃ (b0 b1 b2 b3 b4 b5 b6 b7 b8 b9 b10 b11 b12 b13 : Bool), lst = #[b0, b1, b2, b3, b4, b5, b6, b7, b8, b9, b10, b11, b12, b13] ∧ a = ⟨#[.agg #[.slice (some ad0) pts.length c0, v1], .pointer (some ⟨w.heap.size, 0, none⟩), .pointer (some ⟨(w.heap.size + 1), 0, none⟩), .pointer (some ⟨(w.heap.size + 1 + 1), 0, none⟩), .bool false, .int .i64 i, .pointer (some ⟨wr.heap.size, 0, none⟩), .pointer (some ⟨w.heap.size, 0, none⟩), .slice (some ad0) pts.length c0, .int .i64 pts.length, .int .i64 i, .bool true, .int .i64 i, .pointer (some (ad0.add (i * 3))), .agg #[.int .i64 (rd_T33 pts i).f0, .int .i64 (rd_T33 pts i).f1, .bool (rd_T33 pts i).f2], .int .i64 i, .bool false, u17, u18, u19, u20, u21, u22, u23, u24, u25, u26, (cond b0 (.pointer (some ⟨(w.heap.size + 1), 0, none⟩)) u27), (cond b1 (.int .i64 ((boxSt pts i).1.f0)) u28), (cond b2 (.pointer (some ⟨wr.heap.size, 0, none⟩)) u29), (cond b3 (.int .i64 ((rd_T33 pts i).f0)) u30), (cond b4 (.int .i64 (min ((boxSt pts i).1.f0) ((rd_T33 pts i).f0))) u31), (cond b5 (.pointer (some ⟨(w.heap.size + 1), 1, none⟩)) u32), (cond b6 (.int .i64 ((boxSt pts i).1.f1)) u33), (cond b7 (.pointer (some ⟨wr.heap.size, 1, none⟩)) u34), (cond b8 (.int .i64 ((rd_T33 pts i).f1)) u35), (cond b9 (.int .i64 (min ((boxSt pts i).1.f1) ((rd_T33 pts i).f1))) u36), (cond b10 (.pointer (some ⟨(w.heap.size + 1), 0, none⟩)) u37), (cond b12 (.pointer (some ⟨(w.heap.size + 1), 1, none⟩)) u38), u39, u40, u41, u42, u43, u44, u45, u46, u47, u48, u49, u50, u51, undef, undef, undef, undef, undef, undef], []⟩ ∧ (b11 = true → b1 = true) ∧ (b13 = true → b6 = true) ∧ (Blks [(wr.heap.size, .cells #[.int .i64 ((rd_T33 pts i).f0), .int .i64 ((rd_T33 pts i).f1), .bool (rd_T33 pts i).f2] 33 (0, 0)), ((w.heap.size + 1 + 1), .cells #[.int .i64 ((boxSt pts i).2.f0), .int .i64 ((boxSt pts i).2.f1), .bool ((boxSt pts i).2.f2)] 33 (0, 0)), ((w.heap.size + 1), .cells #[cond b11 (.int .i64 (min ((boxSt pts i).1.f0) ((rd_T33 pts i).f0))) (.int .i64 ((boxSt pts i).1.f0)), cond b13 (.int .i64 (min ((boxSt pts i).1.f1) ((rd_T33 pts i).f1))) (.int .i64 ((boxSt pts i).1.f1)), .bool ((boxSt pts i).1.f2)] 33 (0, 0)), (w.heap.size, .cells #[.slice (some ad0) pts.length c0, v1] 25 (0, 0))] W') ∧ (Below w.heap.size w W')) ?_ ?_ ?_ ?_
    ·
     rintro lst a W' ⟨b0, b1, b2, b3, b4, b5, b6, b7, b8, b9, b10, b11, b12, b13, rfl, _⟩
     rfl
    ·
     exact ⟨false, false, false, false, false, false, false, false, false, false, false, false, false, false, rfl, rfl, (fun h => Bool.noConfusion h), (fun h => Bool.noConfusion h), HB.drew, below_drew HW⟩
    ·
     rintro lst a W' i o ⟨b0, b1, b2, b3, b4, b5, b6, b7, b8, b9, b10, b11, b12, b13, rfl, rfl, k0, k1, hHB, hHW⟩ ho hf hd K hK
     have hi : i < 14 := (Array.getElem?_eq_some_iff.1 ho).1
     have ho2 := ho
     rcases (show i = 0 ∨ i = 1 ∨ i = 2 ∨ i = 3 ∨ i = 4 ∨ i = 5 ∨ i = 6 ∨ i = 7 ∨ i = 8 ∨ i = 9 ∨ i = 10 ∨ i = 11 ∨ i = 12 ∨ i = 13 by omega) with rfl | rfl | rfl | rfl | rfl | rfl | rfl | rfl | rfl | rfl | rfl | rfl | rfl | rfl
     ·
      simp only [List.getElem?_toArray, List.getElem?_cons_succ, List.getElem?_cons_zero, Option.some.injEq] at ho
      subst ho
      replace hf : b0 = false := hf
      subst hf
      refine Go.Proofs.YtbmklpcheopgoaaReg.op_val ho2 rfl (v := .pointer (some ⟨(w.heap.size + 1), 0, none⟩)) (w1 := W') ?_ (hK _ _ ⟨true, b1, b2, b3, b4, b5, b6, b7, b8, b9, b10, b11, b12, b13, rfl, rfl, (k0), (k1), hHB, hHW⟩)
      simp [go_sem, hu]
     ·
      simp only [List.getElem?_toArray, List.getElem?_cons_succ, List.getElem?_cons_zero, Option.some.injEq] at ho
      subst ho
      replace hf : b1 = false := hf
      have d0 : b0 = true := hd ⟨0, .data⟩ (by simp) rfl
      subst d0
      have n11 : b11 = false := Bool.eq_false_iff.mpr (fun h => absurd (k0 h) (by rw [hf]; decide))
      subst n11
      subst hf
      refine Go.Proofs.YtbmklpcheopgoaaReg.op_val ho2 rfl (v := .int .i64 ((boxSt pts i).1.f0)) (w1 := W') ?_ (hK _ _ ⟨true, true, b2, b3, b4, b5, b6, b7, b8, b9, b10, false, b12, b13, rfl, rfl, (fun _ => rfl), (k1), hHB, hHW⟩)
      simp [go_sem, hu, (Blks.cell hHB 2 rfl 0)]
     ·
      simp only [List.getElem?_toArray, List.getElem?_cons_succ, List.getElem?_cons_zero, Option.some.injEq] at ho
      subst ho
      replace hf : b2 = false := hf
      subst hf
      refine Go.Proofs.YtbmklpcheopgoaaReg.op_val ho2 rfl (v := .pointer (some ⟨wr.heap.size, 0, none⟩)) (w1 := W') ?_ (hK _ _ ⟨b0, b1, true, b3, b4, b5, b6, b7, b8, b9, b10, b11, b12, b13, rfl, rfl, (k0), (k1), hHB, hHW⟩)
      simp [go_sem, hu]
     ·
      simp only [List.getElem?_toArray, List.getElem?_cons_succ, List.getElem?_cons_zero, Option.some.injEq] at ho
      subst ho
      replace hf : b3 = false := hf
      have d2 : b2 = true := hd ⟨2, .data⟩ (by simp) rfl
      subst d2
      subst hf
      refine Go.Proofs.YtbmklpcheopgoaaReg.op_val ho2 rfl (v := .int .i64 ((rd_T33 pts i).f0)) (w1 := W') ?_ (hK _ _ ⟨b0, b1, true, true, b4, b5, b6, b7, b8, b9, b10, b11, b12, b13, rfl, rfl, (k0), (k1), hHB, hHW⟩)
      simp [go_sem, hu, (Blks.cell hHB 0 rfl 0)]
     ·
      simp only [List.getElem?_toArray, List.getElem?_cons_succ, List.getElem?_cons_zero, Option.some.injEq] at ho
      subst ho
      replace hf : b4 = false := hf
      have d1 : b1 = true := hd ⟨1, .data⟩ (by simp) rfl
      have d3 : b3 = true := hd ⟨3, .data⟩ (by simp) rfl
      subst d1
      subst d3
      subst hf
      refine Go.Proofs.YtbmklpcheopgoaaReg.op_val ho2 rfl (v := .int .i64 (min ((boxSt pts i).1.f0) ((rd_T33 pts i).f0))) (w1 := W') ?_ (hK _ _ ⟨b0, true, b2, true, true, b5, b6, b7, b8, b9, b10, b11, b12, b13, rfl, rfl, (fun _ => rfl), (k1), hHB, hHW⟩)
      simp [go_sem, hu] <;> omega
     ·
      simp only [List.getElem?_toArray, List.getElem?_cons_succ, List.getElem?_cons_zero, Option.some.injEq] at ho
      subst ho
      replace hf : b5 = false := hf
      subst hf
      refine Go.Proofs.YtbmklpcheopgoaaReg.op_val ho2 rfl (v := .pointer (some ⟨(w.heap.size + 1), 1, none⟩)) (w1 := W') ?_ (hK _ _ ⟨b0, b1, b2, b3, b4, true, b6, b7, b8, b9, b10, b11, b12, b13, rfl, rfl, (k0), (k1), hHB, hHW⟩)
      simp [go_sem, hu]
     ·
      simp only [List.getElem?_toArray, List.getElem?_cons_succ, List.getElem?_cons_zero, Option.some.injEq] at ho
      subst ho
      replace hf : b6 = false := hf
      have d5 : b5 = true := hd ⟨5, .data⟩ (by simp) rfl
      subst d5
      have n13 : b13 = false := Bool.eq_false_iff.mpr (fun h => absurd (k1 h) (by rw [hf]; decide))
      subst n13
      subst hf
      refine Go.Proofs.YtbmklpcheopgoaaReg.op_val ho2 rfl (v := .int .i64 ((boxSt pts i).1.f1)) (w1 := W') ?_ (hK _ _ ⟨b0, b1, b2, b3, b4, true, true, b7, b8, b9, b10, b11, b12, false, rfl, rfl, (k0), (fun _ => rfl), hHB, hHW⟩)
      simp [go_sem, hu, (Blks.cell hHB 2 rfl 1)]
     ·
      simp only [List.getElem?_toArray, List.getElem?_cons_succ, List.getElem?_cons_zero, Option.some.injEq] at ho
      subst ho
      replace hf : b7 = false := hf
      subst hf
      refine Go.Proofs.YtbmklpcheopgoaaReg.op_val ho2 rfl (v := .pointer (some ⟨wr.heap.size, 1, none⟩)) (w1 := W') ?_ (hK _ _ ⟨b0, b1, b2, b3, b4, b5, b6, true, b8, b9, b10, b11, b12, b13, rfl, rfl, (k0), (k1), hHB, hHW⟩)
      simp [go_sem, hu]
     ·
      simp only [List.getElem?_toArray, List.getElem?_cons_succ, List.getElem?_cons_zero, Option.some.injEq] at ho
      subst ho
      replace hf : b8 = false := hf
      have d7 : b7 = true := hd ⟨7, .data⟩ (by simp) rfl
      subst d7
      subst hf
      refine Go.Proofs.YtbmklpcheopgoaaReg.op_val ho2 rfl (v := .int .i64 ((rd_T33 pts i).f1)) (w1 := W') ?_ (hK _ _ ⟨b0, b1, b2, b3, b4, b5, b6, true, true, b9, b10, b11, b12, b13, rfl, rfl, (k0), (k1), hHB, hHW⟩)
      simp [go_sem, hu, (Blks.cell hHB 0 rfl 1)]
     ·
      simp only [List.getElem?_toArray, List.getElem?_cons_succ, List.getElem?_cons_zero, Option.some.injEq] at ho
      subst ho
      replace hf : b9 = false := hf
      have d6 : b6 = true := hd ⟨6, .data⟩ (by simp) rfl
      have d8 : b8 = true := hd ⟨8, .data⟩ (by simp) rfl
      subst d6
      subst d8
      subst hf
      refine Go.Proofs.YtbmklpcheopgoaaReg.op_val ho2 rfl (v := .int .i64 (min ((boxSt pts i).1.f1) ((rd_T33 pts i).f1))) (w1 := W') ?_ (hK _ _ ⟨b0, b1, b2, b3, b4, b5, true, b7, true, true, b10, b11, b12, b13, rfl, rfl, (k0), (fun _ => rfl), hHB, hHW⟩)
      simp [go_sem, hu] <;> omega
     ·
      simp only [List.getElem?_toArray, List.getElem?_cons_succ, List.getElem?_cons_zero, Option.some.injEq] at ho
      subst ho
      replace hf : b10 = false := hf
      have d0 : b0 = true := hd ⟨0, .phase⟩ (by simp) rfl
      have d1 : b1 = true := hd ⟨1, .phase⟩ (by simp) rfl
      have d2 : b2 = true := hd ⟨2, .phase⟩ (by simp) rfl
      have d3 : b3 = true := hd ⟨3, .phase⟩ (by simp) rfl
      have d4 : b4 = true := hd ⟨4, .phase⟩ (by simp) rfl
      have d5 : b5 = true := hd ⟨5, .phase⟩ (by simp) rfl
      have d6 : b6 = true := hd ⟨6, .phase⟩ (by simp) rfl
      subst d0
      subst d1
      subst d2
      subst d3
      subst d4
      subst d5
      subst d6
      subst hf
      refine Go.Proofs.YtbmklpcheopgoaaReg.op_val ho2 rfl (v := .pointer (some ⟨(w.heap.size + 1), 0, none⟩)) (w1 := W') ?_ (hK _ _ ⟨true, true, true, true, true, true, true, b7, b8, b9, true, b11, b12, b13, rfl, rfl, (fun _ => rfl), (fun _ => rfl), hHB, hHW⟩)
      simp [go_sem, hu]
     ·
      simp only [List.getElem?_toArray, List.getElem?_cons_succ, List.getElem?_cons_zero, Option.some.injEq] at ho
      subst ho
      replace hf : b11 = false := hf
      have d0 : b0 = true := hd ⟨0, .phase⟩ (by simp) rfl
      have d1 : b1 = true := hd ⟨1, .phase⟩ (by simp) rfl
      have d2 : b2 = true := hd ⟨2, .phase⟩ (by simp) rfl
      have d3 : b3 = true := hd ⟨3, .phase⟩ (by simp) rfl
      have d4 : b4 = true := hd ⟨4, .data⟩ (by simp) rfl
      have d5 : b5 = true := hd ⟨5, .phase⟩ (by simp) rfl
      have d6 : b6 = true := hd ⟨6, .phase⟩ (by simp) rfl
      have d10 : b10 = true := hd ⟨10, .data⟩ (by simp) rfl
      subst d0
      subst d1
      subst d2
      subst d3
      subst d4
      subst d5
      subst d6
      subst d10
      subst hf
      refine Go.Proofs.YtbmklpcheopgoaaReg.op_skip ho2 rfl (w1 := W'.setCell ⟨(w.heap.size + 1), 0, none⟩ (.int .i64 (min ((boxSt pts i).1.f0) ((rd_T33 pts i).f0)))) ?_ (hK _ _ ⟨true, true, true, true, true, true, true, b7, b8, b9, true, true, b12, b13, rfl, rfl, (fun _ => rfl), (fun _ => rfl), Blks.set hHB 2 rfl 0 (.int .i64 (min ((boxSt pts i).1.f0) ((rd_T33 pts i).f0))), (Below.setCell hHW (by dsimp only; omega) (.int .i64 (min ((boxSt pts i).1.f0) ((rd_T33 pts i).f0))))⟩)
      simp [go_sem, hu, (Blks.cell hHB 2 rfl 0), (Blks.free hHB 2 rfl 0)]
     ·
      simp only [List.getElem?_toArray, List.getElem?_cons_succ, List.getElem?_cons_zero, Option.some.injEq] at ho
      subst ho
      replace hf : b12 = false := hf
      have d0 : b0 = true := hd ⟨0, .phase⟩ (by simp) rfl
      have d1 : b1 = true := hd ⟨1, .phase⟩ (by simp) rfl
      have d2 : b2 = true := hd ⟨2, .phase⟩ (by simp) rfl
      have d3 : b3 = true := hd ⟨3, .phase⟩ (by simp) rfl
      have d4 : b4 = true := hd ⟨4, .phase⟩ (by simp) rfl
      have d5 : b5 = true := hd ⟨5, .phase⟩ (by simp) rfl
      have d6 : b6 = true := hd ⟨6, .phase⟩ (by simp) rfl
      have d7 : b7 = true := hd ⟨7, .phase⟩ (by simp) rfl
      have d8 : b8 = true := hd ⟨8, .phase⟩ (by simp) rfl
      have d9 : b9 = true := hd ⟨9, .phase⟩ (by simp) rfl
      have d10 : b10 = true := hd ⟨10, .phase⟩ (by simp) rfl
      have d11 : b11 = true := hd ⟨11, .phase⟩ (by simp) rfl
      subst d0
      subst d1
      subst d2
      subst d3
      subst d4
      subst d5
      subst d6
      subst d7
      subst d8
      subst d9
      subst d10
      subst d11
      subst hf
      refine Go.Proofs.YtbmklpcheopgoaaReg.op_val ho2 rfl (v := .pointer (some ⟨(w.heap.size + 1), 1, none⟩)) (w1 := W') ?_ (hK _ _ ⟨true, true, true, true, true, true, true, true, true, true, true, true, true, b13, rfl, rfl, (fun _ => rfl), (fun _ => rfl), hHB, hHW⟩)
      simp [go_sem, hu]
     ·
      simp only [List.getElem?_toArray, List.getElem?_cons_succ, List.getElem?_cons_zero, Option.some.injEq] at ho
      subst ho
      replace hf : b13 = false := hf
      have d0 : b0 = true := hd ⟨0, .phase⟩ (by simp) rfl
      have d1 : b1 = true := hd ⟨1, .phase⟩ (by simp) rfl
      have d2 : b2 = true := hd ⟨2, .phase⟩ (by simp) rfl
      have d3 : b3 = true := hd ⟨3, .phase⟩ (by simp) rfl
      have d4 : b4 = true := hd ⟨4, .phase⟩ (by simp) rfl
      have d5 : b5 = true := hd ⟨5, .phase⟩ (by simp) rfl
      have d6 : b6 = true := hd ⟨6, .phase⟩ (by simp) rfl
      have d7 : b7 = true := hd ⟨7, .phase⟩ (by simp) rfl
      have d8 : b8 = true := hd ⟨8, .phase⟩ (by simp) rfl
      have d9 : b9 = true := hd ⟨9, .data⟩ (by simp) rfl
      have d10 : b10 = true := hd ⟨10, .phase⟩ (by simp) rfl
      have d11 : b11 = true := hd ⟨11, .chain⟩ (by simp) rfl
      have d12 : b12 = true := hd ⟨12, .data⟩ (by simp) rfl
      subst d0
      subst d1
      subst d2
      subst d3
      subst d4
      subst d5
      subst d6
      subst d7
      subst d8
      subst d9
      subst d10
      subst d11
      subst d12
      subst hf
      refine Go.Proofs.YtbmklpcheopgoaaReg.op_skip ho2 rfl (w1 := W'.setCell ⟨(w.heap.size + 1), 1, none⟩ (.int .i64 (min ((boxSt pts i).1.f1) ((rd_T33 pts i).f1)))) ?_ (hK _ _ ⟨true, true, true, true, true, true, true, true, true, true, true, true, true, true, rfl, rfl, (fun _ => rfl), (fun _ => rfl), Blks.set hHB 2 rfl 1 (.int .i64 (min ((boxSt pts i).1.f1) ((rd_T33 pts i).f1))), (Below.setCell hHW (by dsimp only; omega) (.int .i64 (min ((boxSt pts i).1.f1) ((rd_T33 pts i).f1))))⟩)
      simp [go_sem, hu, (Blks.cell hHB 2 rfl 1), (Blks.free hHB 2 rfl 1)]
    ·
     rintro lst a W' ⟨b0, b1, b2, b3, b4, b5, b6, b7, b8, b9, b10, b11, b12, b13, rfl, rfl, k0, k1, hHB, hHW⟩ hall
     have a0 : b0 = true := hall 0 (by decide)
     have a1 : b1 = true := hall 1 (by decide)
     have a2 : b2 = true := hall 2 (by decide)
     have a3 : b3 = true := hall 3 (by decide)
     have a4 : b4 = true := hall 4 (by decide)
     have a5 : b5 = true := hall 5 (by decide)
     have a6 : b6 = true := hall 6 (by decide)
     have a7 : b7 = true := hall 7 (by decide)
     have a8 : b8 = true := hall 8 (by decide)
     have a9 : b9 = true := hall 9 (by decide)
     have a10 : b10 = true := hall 10 (by decide)
     have a11 : b11 = true := hall 11 (by decide)
     have a12 : b12 = true := hall 12 (by decide)
     have a13 : b13 = true := hall 13 (by decide)
     subst a0 a1 a2 a3 a4 a5 a6 a7 a8 a9 a10 a11 a12 a13
     clear k0 k1
     clear hall
     have HB : Blks [(wr.heap.size, .cells #[.int .i64 ((rd_T33 pts i).f0), .int .i64 ((rd_T33 pts i).f1), .bool (rd_T33 pts i).f2] 33 (0, 0)), ((w.heap.size + 1 + 1), .cells #[.int .i64 ((boxSt pts i).2.f0), .int .i64 ((boxSt pts i).2.f1), .bool ((boxSt pts i).2.f2)] 33 (0, 0)), ((w.heap.size + 1), .cells #[.int .i64 (min ((boxSt pts i).1.f0) ((rd_T33 pts i).f0)), .int .i64 (min ((boxSt pts i).1.f1) ((rd_T33 pts i).f1)), .bool ((boxSt pts i).1.f2)] 33 (0, 0)), (w.heap.size, .cells #[.slice (some ad0) pts.length c0, v1] 25 (0, 0))] W' := hHB
     have HW : Below w.heap.size w W' := hHW
     clear hHB hHW
     go_wp2
     refine Go.Proofs.YtbmklpcheopgoaaReg.reg_inv (by rfl) [0, 1, 2, 3, 4, 5, 6, 7, 8, 9, 10, 11, 12, 13] (by kernel_rfl) (by kernel_rfl)
      (fun lst a W' => ∃ (b0 b1 b2 b3 b4 b5 b6 b7 b8 b9 b10 b11 b12 b13 : Bool), lst = #[b0, b1, b2, b3, b4, b5, b6, b7, b8, b9, b10, b11, b12, b13] ∧ a = ⟨#[.agg #[.slice (some ad0) pts.length c0, v1], .pointer (some ⟨w.heap.size, 0, none⟩), .pointer (some ⟨(w.heap.size + 1), 0, none⟩), .pointer (some ⟨(w.heap.size + 1 + 1), 0, none⟩), .bool false, .int .i64 i, .pointer (some ⟨wr.heap.size, 0, none⟩), .pointer (some ⟨w.heap.size, 0, none⟩), .slice (some ad0) pts.length c0, .int .i64 pts.length, .int .i64 i, .bool true, .int .i64 i, .pointer (some (ad0.add (i * 3))), .agg #[.int .i64 (rd_T33 pts i).f0, .int .i64 (rd_T33 pts i).f1, .bool (rd_T33 pts i).f2], .int .i64 i, .bool false, u17, u18, u19, u20, u21, u22, u23, u24, u25, u26, .pointer (some ⟨(w.heap.size + 1), 0, none⟩), .int .i64 ((boxSt pts i).1.f0), .pointer (some ⟨wr.heap.size, 0, none⟩), .int .i64 ((rd_T33 pts i).f0), .int .i64 (min ((boxSt pts i).1.f0) ((rd_T33 pts i).f0)), .pointer (some ⟨(w.heap.size + 1), 1, none⟩), .int .i64 ((boxSt pts i).1.f1), .pointer (some ⟨wr.heap.size, 1, none⟩), .int .i64 ((rd_T33 pts i).f1), .int .i64 (min ((boxSt pts i).1.f1) ((rd_T33 pts i).f1)), .pointer (some ⟨(w.heap.size + 1), 0, none⟩), .pointer (some ⟨(w.heap.size + 1), 1, none⟩), (cond b0 (.pointer (some ⟨(w.heap.size + 1 + 1), 0, none⟩)) u39), (cond b1 (.int .i64 ((boxSt pts i).2.f0)) u40), (cond b2 (.pointer (some ⟨wr.heap.size, 0, none⟩)) u41), (cond b3 (.int .i64 ((rd_T33 pts i).f0)) u42), (cond b4 (.int .i64 (max ((boxSt pts i).2.f0) ((rd_T33 pts i).f0))) u43), (cond b5 (.pointer (some ⟨(w.heap.size + 1 + 1), 1, none⟩)) u44), (cond b6 (.int .i64 ((boxSt pts i).2.f1)) u45), (cond b7 (.pointer (some ⟨wr.heap.size, 1, none⟩)) u46), (cond b8 (.int .i64 ((rd_T33 pts i).f1)) u47), (cond b9 (.int .i64 (max ((boxSt pts i).2.f1) ((rd_T33 pts i).f1))) u48), (cond b10 (.pointer (some ⟨(w.heap.size + 1 + 1), 0, none⟩)) u49), (cond b12 (.pointer (some ⟨(w.heap.size + 1 + 1), 1, none⟩)) u50), u51, undef, undef, undef, undef, undef, undef], []⟩ ∧ (b11 = true → b1 = true) ∧ (b13 = true → b6 = true) ∧ (Blks [(wr.heap.size, .cells #[.int .i64 ((rd_T33 pts i).f0), .int .i64 ((rd_T33 pts i).f1), .bool (rd_T33 pts i).f2] 33 (0, 0)), ((w.heap.size + 1 + 1), .cells #[cond b11 (.int .i64 (max ((boxSt pts i).2.f0) ((rd_T33 pts i).f0))) (.int .i64 ((boxSt pts i).2.f0)), cond b13 (.int .i64 (max ((boxSt pts i).2.f1) ((rd_T33 pts i).f1))) (.int .i64 ((boxSt pts i).2.f1)), .bool ((boxSt pts i).2.f2)] 33 (0, 0)), ((w.heap.size + 1), .cells #[.int .i64 (min ((boxSt pts i).1.f0) ((rd_T33 pts i).f0)), .int .i64 (min ((boxSt pts i).1.f1) ((rd_T33 pts i).f1)), .bool ((boxSt pts i).1.f2)] 33 (0, 0)), (w.heap.size, .cells #[.slice (some ad0) pts.length c0, v1] 25 (0, 0))] W') ∧ (Below w.heap.size w W')) ?_ ?_ ?_ ?_
     ·
      rintro lst a W' ⟨b0, b1, b2, b3, b4, b5, b6, b7, b8, b9, b10, b11, b12, b13, rfl, _⟩
      rfl
     ·
      exact ⟨false, false, false, false, false, false, false, false, false, false, false, false, false, false, rfl, rfl, (fun h => Bool.noConfusion h), (fun h => Bool.noConfusion h), HB.drew, below_drew HW⟩
     ·
      rintro lst a W' i o ⟨b0, b1, b2, b3, b4, b5, b6, b7, b8, b9, b10, b11, b12, b13, rfl, rfl, k0, k1, hHB, hHW⟩ ho hf hd K hK
      have hi : i < 14 := (Array.getElem?_eq_some_iff.1 ho).1
      have ho2 := ho
      rcases (show i = 0 ∨ i = 1 ∨ i = 2 ∨ i = 3 ∨ i = 4 ∨ i = 5 ∨ i = 6 ∨ i = 7 ∨ i = 8 ∨ i = 9 ∨ i = 10 ∨ i = 11 ∨ i = 12 ∨ i = 13 by omega) with rfl | rfl | rfl | rfl | rfl | rfl | rfl | rfl | rfl | rfl | rfl | rfl | rfl | rfl
      ·
       simp only [List.getElem?_toArray, List.getElem?_cons_succ, List.getElem?_cons_zero, Option.some.injEq] at ho
       subst ho
       replace hf : b0 = false := hf
       subst hf
       refine Go.Proofs.YtbmklpcheopgoaaReg.op_val ho2 rfl (v := .pointer (some ⟨(w.heap.size + 1 + 1), 0, none⟩)) (w1 := W') ?_ (hK _ _ ⟨true, b1, b2, b3, b4, b5, b6, b7, b8, b9, b10, b11, b12, b13, rfl, rfl, (k0), (k1), hHB, hHW⟩)
       simp [go_sem, hu]
      ·
       simp only [List.getElem?_toArray, List.getElem?_cons_succ, List.getElem?_cons_zero, Option.some.injEq] at ho
       subst ho
       replace hf : b1 = false := hf
       have d0 : b0 = true := hd ⟨0, .data⟩ (by simp) rfl
       subst d0
       have n11 : b11 = false := Bool.eq_false_iff.mpr (fun h => absurd (k0 h) (by rw [hf]; decide))
       subst n11
       subst hf
       refine Go.Proofs.YtbmklpcheopgoaaReg.op_val ho2 rfl (v := .int .i64 ((boxSt pts i).2.f0)) (w1 := W') ?_ (hK _ _ ⟨true, true, b2, b3, b4, b5, b6, b7, b8, b9, b10, false, b12, b13, rfl, rfl, (fun _ => rfl), (k1), hHB, hHW⟩)
       simp [go_sem, hu, (Blks.cell hHB 1 rfl 0)]
      ·
       simp only [List.getElem?_toArray, List.getElem?_cons_succ, List.getElem?_cons_zero, Option.some.injEq] at ho
       subst ho
       replace hf : b2 = false := hf
       subst hf
       refine Go.Proofs.YtbmklpcheopgoaaReg.op_val ho2 rfl (v := .pointer (some ⟨wr.heap.size, 0, none⟩)) (w1 := W') ?_ (hK _ _ ⟨b0, b1, true, b3, b4, b5, b6, b7, b8, b9, b10, b11, b12, b13, rfl, rfl, (k0), (k1), hHB, hHW⟩)
       simp [go_sem, hu]
      ·
       simp only [List.getElem?_toArray, List.getElem?_cons_succ, List.getElem?_cons_zero, Option.some.injEq] at ho
       subst ho
       replace hf : b3 = false := hf
       have d2 : b2 = true := hd ⟨2, .data⟩ (by simp) rfl
       subst d2
       subst hf
       refine Go.Proofs.YtbmklpcheopgoaaReg.op_val ho2 rfl (v := .int .i64 ((rd_T33 pts i).f0)) (w1 := W') ?_ (hK _ _ ⟨b0, b1, true, true, b4, b5, b6, b7, b8, b9, b10, b11, b12, b13, rfl, rfl, (k0), (k1), hHB, hHW⟩)
       simp [go_sem, hu, (Blks.cell hHB 0 rfl 0)]
      ·
       simp only [List.getElem?_toArray, List.getElem?_cons_succ, List.getElem?_cons_zero, Option.some.injEq] at ho
       subst ho
       replace hf : b4 = false := hf
       have d1 : b1 = true := hd ⟨1, .data⟩ (by simp) rfl
       have d3 : b3 = true := hd ⟨3, .data⟩ (by simp) rfl
       subst d1
       subst d3
       subst hf
       refine Go.Proofs.YtbmklpcheopgoaaReg.op_val ho2 rfl (v := .int .i64 (max ((boxSt pts i).2.f0) ((rd_T33 pts i).f0))) (w1 := W') ?_ (hK _ _ ⟨b0, true, b2, true, true, b5, b6, b7, b8, b9, b10, b11, b12, b13, rfl, rfl, (fun _ => rfl), (k1), hHB, hHW⟩)
       simp [go_sem, hu] <;> omega
      ·
       simp only [List.getElem?_toArray, List.getElem?_cons_succ, List.getElem?_cons_zero, Option.some.injEq] at ho
       subst ho
       replace hf : b5 = false := hf
       subst hf
       refine Go.Proofs.YtbmklpcheopgoaaReg.op_val ho2 rfl (v := .pointer (some ⟨(w.heap.size + 1 + 1), 1, none⟩)) (w1 := W') ?_ (hK _ _ ⟨b0, b1, b2, b3, b4, true, b6, b7, b8, b9, b10, b11, b12, b13, rfl, rfl, (k0), (k1), hHB, hHW⟩)
       simp [go_sem, hu]
      ·
       simp only [List.getElem?_toArray, List.getElem?_cons_succ, List.getElem?_cons_zero, Option.some.injEq] at ho
       subst ho
       replace hf : b6 = false := hf
       have d5 : b5 = true := hd ⟨5, .data⟩ (by simp) rfl
       subst d5
       have n13 : b13 = false := Bool.eq_false_iff.mpr (fun h => absurd (k1 h) (by rw [hf]; decide))
       subst n13
       subst hf
       refine Go.Proofs.YtbmklpcheopgoaaReg.op_val ho2 rfl (v := .int .i64 ((boxSt pts i).2.f1)) (w1 := W') ?_ (hK _ _ ⟨b0, b1, b2, b3, b4, true, true, b7, b8, b9, b10, b11, b12, false, rfl, rfl, (k0), (fun _ => rfl), hHB, hHW⟩)
       simp [go_sem, hu, (Blks.cell hHB 1 rfl 1)]
      ·
       simp only [List.getElem?_toArray, List.getElem?_cons_succ, List.getElem?_cons_zero, Option.some.injEq] at ho
       subst ho
       replace hf : b7 = false := hf
       subst hf
       refine Go.Proofs.YtbmklpcheopgoaaReg.op_val ho2 rfl (v := .pointer (some ⟨wr.heap.size, 1, none⟩)) (w1 := W') ?_ (hK _ _ ⟨b0, b1, b2, b3, b4, b5, b6, true, b8, b9, b10, b11, b12, b13, rfl, rfl, (k0), (k1), hHB, hHW⟩)
       simp [go_sem, hu]
      ·
       simp only [List.getElem?_toArray, List.getElem?_cons_succ, List.getElem?_cons_zero, Option.some.injEq] at ho
       subst ho
       replace hf : b8 = false := hf
       have d7 : b7 = true := hd ⟨7, .data⟩ (by simp) rfl
       subst d7
       subst hf
       refine Go.Proofs.YtbmklpcheopgoaaReg.op_val ho2 rfl (v := .int .i64 ((rd_T33 pts i).f1)) (w1 := W') ?_ (hK _ _ ⟨b0, b1, b2, b3, b4, b5, b6, true, true, b9, b10, b11, b12, b13, rfl, rfl, (k0), (k1), hHB, hHW⟩)
       simp [go_sem, hu, (Blks.cell hHB 0 rfl 1)]
      ·
       simp only [List.getElem?_toArray, List.getElem?_cons_succ, List.getElem?_cons_zero, Option.some.injEq] at ho
       subst ho
       replace hf : b9 = false := hf
       have d6 : b6 = true := hd ⟨6, .data⟩ (by simp) rfl
       have d8 : b8 = true := hd ⟨8, .data⟩ (by simp) rfl
       subst d6
       subst d8
       subst hf
       refine Go.Proofs.YtbmklpcheopgoaaReg.op_val ho2 rfl (v := .int .i64 (max ((boxSt pts i).2.f1) ((rd_T33 pts i).f1))) (w1 := W') ?_ (hK _ _ ⟨b0, b1, b2, b3, b4, b5, true, b7, true, true, b10, b11, b12, b13, rfl, rfl, (k0), (fun _ => rfl), hHB, hHW⟩)
       simp [go_sem, hu] <;> omega
      ·
       simp only [List.getElem?_toArray, List.getElem?_cons_succ, List.getElem?_cons_zero, Option.some.injEq] at ho
       subst ho
       replace hf : b10 = false := hf
       have d0 : b0 = true := hd ⟨0, .phase⟩ (by simp) rfl
       have d1 : b1 = true := hd ⟨1, .phase⟩ (by simp) rfl
       have d2 : b2 = true := hd ⟨2, .phase⟩ (by simp) rfl
       have d3 : b3 = true := hd ⟨3, .phase⟩ (by simp) rfl
       have d4 : b4 = true := hd ⟨4, .phase⟩ (by simp) rfl
       have d5 : b5 = true := hd ⟨5, .phase⟩ (by simp) rfl
       have d6 : b6 = true := hd ⟨6, .phase⟩ (by simp) rfl
       subst d0
       subst d1
       subst d2
       subst d3
       subst d4
       subst d5
       subst d6
       subst hf
       refine Go.Proofs.YtbmklpcheopgoaaReg.op_val ho2 rfl (v := .pointer (some ⟨(w.heap.size + 1 + 1), 0, none⟩)) (w1 := W') ?_ (hK _ _ ⟨true, true, true, true, true, true, true, b7, b8, b9, true, b11, b12, b13, rfl, rfl, (fun _ => rfl), (fun _ => rfl), hHB, hHW⟩)
       simp [go_sem, hu]
      ·
       simp only [List.getElem?_toArray, List.getElem?_cons_succ, List.getElem?_cons_zero, Option.some.injEq] at ho
       subst ho
       replace hf : b11 = false := hf
       have d0 : b0 = true := hd ⟨0, .phase⟩ (by simp) rfl
       have d1 : b1 = true := hd ⟨1, .phase⟩ (by simp) rfl
       have d2 : b2 = true := hd ⟨2, .phase⟩ (by simp) rfl
       have d3 : b3 = true := hd ⟨3, .phase⟩ (by simp) rfl
       have d4 : b4 = true := hd ⟨4, .data⟩ (by simp) rfl
       have d5 : b5 = true := hd ⟨5, .phase⟩ (by simp) rfl
       have d6 : b6 = true := hd ⟨6, .phase⟩ (by simp) rfl
       have d10 : b10 = true := hd ⟨10, .data⟩ (by simp) rfl
       subst d0
       subst d1
       subst d2
       subst d3
       subst d4
       subst d5
       subst d6
       subst d10
       subst hf
       refine Go.Proofs.YtbmklpcheopgoaaReg.op_skip ho2 rfl (w1 := W'.setCell ⟨(w.heap.size + 1 + 1), 0, none⟩ (.int .i64 (max ((boxSt pts i).2.f0) ((rd_T33 pts i).f0)))) ?_ (hK _ _ ⟨true, true, true, true, true, true, true, b7, b8, b9, true, true, b12, b13, rfl, rfl, (fun _ => rfl), (fun _ => rfl), Blks.set hHB 1 rfl 0 (.int .i64 (max ((boxSt pts i).2.f0) ((rd_T33 pts i).f0))), (Below.setCell hHW (by dsimp only; omega) (.int .i64 (max ((boxSt pts i).2.f0) ((rd_T33 pts i).f0))))⟩)
       simp [go_sem, hu, (Blks.cell hHB 1 rfl 0), (Blks.free hHB 1 rfl 0)]
      ·
       simp only [List.getElem?_toArray, List.getElem?_cons_succ, List.getElem?_cons_zero, Option.some.injEq] at ho
       subst ho
       replace hf : b12 = false := hf
       have d0 : b0 = true := hd ⟨0, .phase⟩ (by simp) rfl
       have d1 : b1 = true := hd ⟨1, .phase⟩ (by simp) rfl
       have d2 : b2 = true := hd ⟨2, .phase⟩ (by simp) rfl
       have d3 : b3 = true := hd ⟨3, .phase⟩ (by simp) rfl
       have d4 : b4 = true := hd ⟨4, .phase⟩ (by simp) rfl
       have d5 : b5 = true := hd ⟨5, .phase⟩ (by simp) rfl
       have d6 : b6 = true := hd ⟨6, .phase⟩ (by simp) rfl
       have d7 : b7 = true := hd ⟨7, .phase⟩ (by simp) rfl
       have d8 : b8 = true := hd ⟨8, .phase⟩ (by simp) rfl
       have d9 : b9 = true := hd ⟨9, .phase⟩ (by simp) rfl
       have d10 : b10 = true := hd ⟨10, .phase⟩ (by simp) rfl
       have d11 : b11 = true := hd ⟨11, .phase⟩ (by simp) rfl
       subst d0
       subst d1
       subst d2
       subst d3
       subst d4
       subst d5
       subst d6
       subst d7
       subst d8
       subst d9
       subst d10
       subst d11
       subst hf
       refine Go.Proofs.YtbmklpcheopgoaaReg.op_val ho2 rfl (v := .pointer (some ⟨(w.heap.size + 1 + 1), 1, none⟩)) (w1 := W') ?_ (hK _ _ ⟨true, true, true, true, true, true, true, true, true, true, true, true, true, b13, rfl, rfl, (fun _ => rfl), (fun _ => rfl), hHB, hHW⟩)
       simp [go_sem, hu]
      ·
       simp only [List.getElem?_toArray, List.getElem?_cons_succ, List.getElem?_cons_zero, Option.some.injEq] at ho
       subst ho
       replace hf : b13 = false := hf
       have d0 : b0 = true := hd ⟨0, .phase⟩ (by simp) rfl
       have d1 : b1 = true := hd ⟨1, .phase⟩ (by simp) rfl
       have d2 : b2 = true := hd ⟨2, .phase⟩ (by simp) rfl
       have d3 : b3 = true := hd ⟨3, .phase⟩ (by simp) rfl
       have d4 : b4 = true := hd ⟨4, .phase⟩ (by simp) rfl
       have d5 : b5 = true := hd ⟨5, .phase⟩ (by simp) rfl
       have d6 : b6 = true := hd ⟨6, .phase⟩ (by simp) rfl
       have d7 : b7 = true := hd ⟨7, .phase⟩ (by simp) rfl
       have d8 : b8 = true := hd ⟨8, .phase⟩ (by simp) rfl
       have d9 : b9 = true := hd ⟨9, .data⟩ (by simp) rfl
       have d10 : b10 = true := hd ⟨10, .phase⟩ (by simp) rfl
       have d11 : b11 = true := hd ⟨11, .chain⟩ (by simp) rfl
       have d12 : b12 = true := hd ⟨12, .data⟩ (by simp) rfl
       subst d0
       subst d1
       subst d2
       subst d3
       subst d4
       subst d5
       subst d6
       subst d7
       subst d8
       subst d9
       subst d10
       subst d11
       subst d12
       subst hf
       refine Go.Proofs.YtbmklpcheopgoaaReg.op_skip ho2 rfl (w1 := W'.setCell ⟨(w.heap.size + 1 + 1), 1, none⟩ (.int .i64 (max ((boxSt pts i).2.f1) ((rd_T33 pts i).f1)))) ?_ (hK _ _ ⟨true, true, true, true, true, true, true, true, true, true, true, true, true, true, rfl, rfl, (fun _ => rfl), (fun _ => rfl), Blks.set hHB 1 rfl 1 (.int .i64 (max ((boxSt pts i).2.f1) ((rd_T33 pts i).f1))), (Below.setCell hHW (by dsimp only; omega) (.int .i64 (max ((boxSt pts i).2.f1) ((rd_T33 pts i).f1))))⟩)
       simp [go_sem, hu, (Blks.cell hHB 1 rfl 1), (Blks.free hHB 1 rfl 1)]
     ·
      rintro lst a W' ⟨b0, b1, b2, b3, b4, b5, b6, b7, b8, b9, b10, b11, b12, b13, rfl, rfl, k0, k1, hHB, hHW⟩ hall
      have a0 : b0 = true := hall 0 (by decide)
      have a1 : b1 = true := hall 1 (by decide)
      have a2 : b2 = true := hall 2 (by decide)
      have a3 : b3 = true := hall 3 (by decide)
      have a4 : b4 = true := hall 4 (by decide)
      have a5 : b5 = true := hall 5 (by decide)
      have a6 : b6 = true := hall 6 (by decide)
      have a7 : b7 = true := hall 7 (by decide)
      have a8 : b8 = true := hall 8 (by decide)
      have a9 : b9 = true := hall 9 (by decide)
      have a10 : b10 = true := hall 10 (by decide)
      have a11 : b11 = true := hall 11 (by decide)
      have a12 : b12 = true := hall 12 (by decide)
      have a13 : b13 = true := hall 13 (by decide)
      subst a0 a1 a2 a3 a4 a5 a6 a7 a8 a9 a10 a11 a12 a13
      clear k0 k1
      clear hall
      have HB : Blks [(wr.heap.size, .cells #[.int .i64 ((rd_T33 pts i).f0), .int .i64 ((rd_T33 pts i).f1), .bool (rd_T33 pts i).f2] 33 (0, 0)), ((w.heap.size + 1 + 1), .cells #[.int .i64 (max ((boxSt pts i).2.f0) ((rd_T33 pts i).f0)), .int .i64 (max ((boxSt pts i).2.f1) ((rd_T33 pts i).f1)), .bool ((boxSt pts i).2.f2)] 33 (0, 0)), ((w.heap.size + 1), .cells #[.int .i64 (min ((boxSt pts i).1.f0) ((rd_T33 pts i).f0)), .int .i64 (min ((boxSt pts i).1.f1) ((rd_T33 pts i).f1)), .bool ((boxSt pts i).1.f2)] 33 (0, 0)), (w.heap.size, .cells #[.slice (some ad0) pts.length c0, v1] 25 (0, 0))] W' := hHB
      have HW : Below w.heap.size w W' := hHW
      clear hHB hHW
      go_wp2
      go_roundw
      case rel =>
       refine ⟨i + 1, by omega, by simp, ⟨?_, HW⟩⟩
       have hst : boxSt pts (i + 1) = (⟨min ((boxSt pts i).1.f0) ((rd_T33 pts i).f0), min ((boxSt pts i).1.f1) ((rd_T33 pts i).f1), (boxSt pts i).1.f2⟩, ⟨max ((boxSt pts i).2.f0) ((rd_T33 pts i).f0), max ((boxSt pts i).2.f1) ((rd_T33 pts i).f1), (boxSt pts i).2.f2⟩) := by rw [boxSt_succ]; unfold boxStep; rw [if_neg HZ.out]
       rw [hst]
       exact HB.tail
      case measure => simp [intOf]; omega
  ·
   obtain rfl : i = pts.length := by omega
   have g := HB.cells
   simp only [factsF, cellsF, boxPt] at g
   go_wp2
   refine Go.Proofs.YtbmklpcheopgoaaReg.reg_inv (by rfl) [0, 1, 2, 3, 4, 5, 6, 7, 8] (by kernel_rfl) (by kernel_rfl)
    (fun lst a W' => ∃ (b0 b1 b2 b3 b4 b5 b6 b7 b8 : Bool), lst = #[b0, b1, b2, b3, b4, b5, b6, b7, b8] ∧ a = ⟨#[.agg #[.slice A0 pts.length c0, v1], .pointer (some ⟨w.heap.size, 0, none⟩), .pointer (some ⟨(w.heap.size + 1), 0, none⟩), .pointer (some ⟨(w.heap.size + 1 + 1), 0, none⟩), (cond b8 (.bool (decide (0 < pts.length))) (.bool false)), u5, u6, .pointer (some ⟨w.heap.size, 0, none⟩), .slice A0 pts.length c0, .int .i64 pts.length, .int .i64 pts.length, .bool false, u12, u13, u14, u15, u16, u17, u18, u19, u20, u21, u22, u23, u24, u25, u26, u27, u28, u29, u30, u31, u32, u33, u34, u35, u36, u37, u38, u39, u40, u41, u42, u43, u44, u45, u46, u47, u48, u49, u50, u51, (cond b0 (.agg #[.int .i64 (boxSt pts pts.length).1.f0, .int .i64 (boxSt pts pts.length).1.f1, .bool (boxSt pts pts.length).1.f2]) undef), (cond b1 (.agg #[.int .i64 (boxSt pts pts.length).2.f0, .int .i64 (boxSt pts pts.length).2.f1, .bool (boxSt pts pts.length).2.f2]) undef), (cond b2 (.pointer (some ⟨w.heap.size, 0, none⟩)) undef), (cond b3 (.slice A0 pts.length c0) undef), (cond b4 (.int .i64 pts.length) undef), (cond b5 (.bool (decide (0 < pts.length))) undef)], []⟩ ∧ (Blks [((w.heap.size + 1 + 1), .cells #[.int .i64 (boxSt pts pts.length).2.f0, .int .i64 (boxSt pts pts.length).2.f1, .bool (boxSt pts pts.length).2.f2] 33 (0, 0)), ((w.heap.size + 1), .cells #[.int .i64 (boxSt pts pts.length).1.f0, .int .i64 (boxSt pts pts.length).1.f1, .bool (boxSt pts pts.length).1.f2] 33 (0, 0)), (w.heap.size, .cells #[.slice A0 pts.length c0, v1] 25 (0, 0))] W') ∧ (Below w.heap.size w W')) ?_ ?_ ?_ ?_
   ·
    rintro lst a W' ⟨b0, b1, b2, b3, b4, b5, b6, b7, b8, rfl, _⟩
    rfl
   ·
    exact ⟨false, false, false, false, false, false, false, false, false, rfl, rfl, HB.drew, below_drew HW⟩
   ·
    rintro lst a W' i o ⟨b0, b1, b2, b3, b4, b5, b6, b7, b8, rfl, rfl, hHB, hHW⟩ ho hf hd K hK
    have hi : i < 9 := (Array.getElem?_eq_some_iff.1 ho).1
    have ho2 := ho
    rcases (show i = 0 ∨ i = 1 ∨ i = 2 ∨ i = 3 ∨ i = 4 ∨ i = 5 ∨ i = 6 ∨ i = 7 ∨ i = 8 by omega) with rfl | rfl | rfl | rfl | rfl | rfl | rfl | rfl | rfl
    ·
     simp only [List.getElem?_toArray, List.getElem?_cons_succ, List.getElem?_cons_zero, Option.some.injEq] at ho
     subst ho
     replace hf : b0 = false := hf
     subst hf
     refine Go.Proofs.YtbmklpcheopgoaaReg.op_val ho2 rfl (v := .agg #[.int .i64 (boxSt pts pts.length).1.f0, .int .i64 (boxSt pts pts.length).1.f1, .bool (boxSt pts pts.length).1.f2]) (w1 := W') ?_ (hK _ _ ⟨true, b1, b2, b3, b4, b5, b6, b7, b8, rfl, rfl, hHB, hHW⟩)
     simp [go_sem, hu, (Blks.cell hHB 1 rfl 0), (Blks.cell hHB 1 rfl 1), (Blks.cell hHB 1 rfl 2)]
    ·
     simp only [List.getElem?_toArray, List.getElem?_cons_succ, List.getElem?_cons_zero, Option.some.injEq] at ho
     subst ho
     replace hf : b1 = false := hf
     subst hf
     refine Go.Proofs.YtbmklpcheopgoaaReg.op_val ho2 rfl (v := .agg #[.int .i64 (boxSt pts pts.length).2.f0, .int .i64 (boxSt pts pts.length).2.f1, .bool (boxSt pts pts.length).2.f2]) (w1 := W') ?_ (hK _ _ ⟨b0, true, b2, b3, b4, b5, b6, b7, b8, rfl, rfl, hHB, hHW⟩)
     simp [go_sem, hu, (Blks.cell hHB 0 rfl 0), (Blks.cell hHB 0 rfl 1), (Blks.cell hHB 0 rfl 2)]
    ·
     simp only [List.getElem?_toArray, List.getElem?_cons_succ, List.getElem?_cons_zero, Option.some.injEq] at ho
     subst ho
     replace hf : b2 = false := hf
     subst hf
     refine Go.Proofs.YtbmklpcheopgoaaReg.op_val ho2 rfl (v := .pointer (some ⟨w.heap.size, 0, none⟩)) (w1 := W') ?_ (hK _ _ ⟨b0, b1, true, b3, b4, b5, b6, b7, b8, rfl, rfl, hHB, hHW⟩)
     simp [go_sem, hu2]
    ·
     simp only [List.getElem?_toArray, List.getElem?_cons_succ, List.getElem?_cons_zero, Option.some.injEq] at ho
     subst ho
     replace hf : b3 = false := hf
     have d2 : b2 = true := hd ⟨2, .data⟩ (by simp) rfl
     subst d2
     subst hf
     refine Go.Proofs.YtbmklpcheopgoaaReg.op_val ho2 rfl (v := .slice A0 pts.length c0) (w1 := W') ?_ (hK _ _ ⟨b0, b1, true, true, b4, b5, b6, b7, b8, rfl, rfl, hHB, hHW⟩)
     simp [go_sem, hu2, (Blks.cell hHB 2 rfl 0)]
    ·
     simp only [List.getElem?_toArray, List.getElem?_cons_succ, List.getElem?_cons_zero, Option.some.injEq] at ho
     subst ho
     replace hf : b4 = false := hf
     have d3 : b3 = true := hd ⟨3, .data⟩ (by simp) rfl
     subst d3
     subst hf
     refine Go.Proofs.YtbmklpcheopgoaaReg.op_val ho2 rfl (v := .int .i64 pts.length) (w1 := W') ?_ (hK _ _ ⟨b0, b1, b2, true, true, b5, b6, b7, b8, rfl, rfl, hHB, hHW⟩)
     simp [go_sem, hu2]
    ·
     simp only [List.getElem?_toArray, List.getElem?_cons_succ, List.getElem?_cons_zero, Option.some.injEq] at ho
     subst ho
     replace hf : b5 = false := hf
     have d4 : b4 = true := hd ⟨4, .data⟩ (by simp) rfl
     subst d4
     subst hf
     refine Go.Proofs.YtbmklpcheopgoaaReg.op_val ho2 rfl (v := .bool (decide (0 < pts.length))) (w1 := W') ?_ (hK _ _ ⟨b0, b1, b2, b3, true, true, b6, b7, b8, rfl, rfl, hHB, hHW⟩)
     simp [go_sem, hu2]
    ·
     simp only [List.getElem?_toArray, List.getElem?_cons_succ, List.getElem?_cons_zero, Option.some.injEq] at ho
     subst ho
     replace hf : b6 = false := hf
     have d0 : b0 = true := hd ⟨0, .data⟩ (by simp) rfl
     subst d0
     subst hf
     refine Go.Proofs.YtbmklpcheopgoaaReg.op_skip ho2 rfl (w1 := (((W'.setCell ⟨(w.heap.size + 1), 0, none⟩ (.int .i64 (boxSt pts pts.length).1.f0)).setCell ⟨(w.heap.size + 1), 1, none⟩ (.int .i64 (boxSt pts pts.length).1.f1)).setCell ⟨(w.heap.size + 1), 2, none⟩ (.bool (boxSt pts pts.length).1.f2))) ?_ (hK _ _ ⟨true, b1, b2, b3, b4, b5, true, b7, b8, rfl, rfl, (Blks.set (Blks.set (Blks.set hHB 1 rfl 0 (.int .i64 (boxSt pts pts.length).1.f0)) 1 rfl 1 (.int .i64 (boxSt pts pts.length).1.f1)) 1 rfl 2 (.bool (boxSt pts pts.length).1.f2)), (Below.setCell (Below.setCell (Below.setCell hHW (by dsimp only; omega) (.int .i64 (boxSt pts pts.length).1.f0)) (by dsimp only; omega) (.int .i64 (boxSt pts pts.length).1.f1)) (by dsimp only; omega) (.bool (boxSt pts pts.length).1.f2))⟩)
     simp [go_sem, hu, (Blks.cell hHB 1 rfl 0), (Blks.cell hHB 1 rfl 1), (Blks.cell hHB 1 rfl 2), (Blks.free hHB 1 rfl 0), (Blks.free hHB 1 rfl 1), (Blks.free hHB 1 rfl 2)]
    ·
     simp only [List.getElem?_toArray, List.getElem?_cons_succ, List.getElem?_cons_zero, Option.some.injEq] at ho
     subst ho
     replace hf : b7 = false := hf
     have d0 : b0 = true := hd ⟨0, .phase⟩ (by simp) rfl
     have d1 : b1 = true := hd ⟨1, .data⟩ (by simp) rfl
     have d6 : b6 = true := hd ⟨6, .chain⟩ (by simp) rfl
     subst d0
     subst d1
     subst d6
     subst hf
     refine Go.Proofs.YtbmklpcheopgoaaReg.op_skip ho2 rfl (w1 := (((W'.setCell ⟨(w.heap.size + 1 + 1), 0, none⟩ (.int .i64 (boxSt pts pts.length).2.f0)).setCell ⟨(w.heap.size + 1 + 1), 1, none⟩ (.int .i64 (boxSt pts pts.length).2.f1)).setCell ⟨(w.heap.size + 1 + 1), 2, none⟩ (.bool (boxSt pts pts.length).2.f2))) ?_ (hK _ _ ⟨true, true, b2, b3, b4, b5, true, true, b8, rfl, rfl, (Blks.set (Blks.set (Blks.set hHB 0 rfl 0 (.int .i64 (boxSt pts pts.length).2.f0)) 0 rfl 1 (.int .i64 (boxSt pts pts.length).2.f1)) 0 rfl 2 (.bool (boxSt pts pts.length).2.f2)), (Below.setCell (Below.setCell (Below.setCell hHW (by dsimp only; omega) (.int .i64 (boxSt pts pts.length).2.f0)) (by dsimp only; omega) (.int .i64 (boxSt pts pts.length).2.f1)) (by dsimp only; omega) (.bool (boxSt pts pts.length).2.f2))⟩)
     simp [go_sem, hu, (Blks.cell hHB 0 rfl 0), (Blks.cell hHB 0 rfl 1), (Blks.cell hHB 0 rfl 2), (Blks.free hHB 0 rfl 0), (Blks.free hHB 0 rfl 1), (Blks.free hHB 0 rfl 2)]
    ·
     simp only [List.getElem?_toArray, List.getElem?_cons_succ, List.getElem?_cons_zero, Option.some.injEq] at ho
     subst ho
     replace hf : b8 = false := hf
     have d0 : b0 = true := hd ⟨0, .phase⟩ (by simp) rfl
     have d1 : b1 = true := hd ⟨1, .phase⟩ (by simp) rfl
     have d2 : b2 = true := hd ⟨2, .phase⟩ (by simp) rfl
     have d3 : b3 = true := hd ⟨3, .phase⟩ (by simp) rfl
     have d4 : b4 = true := hd ⟨4, .phase⟩ (by simp) rfl
     have d5 : b5 = true := hd ⟨5, .data⟩ (by simp) rfl
     have d6 : b6 = true := hd ⟨6, .phase⟩ (by simp) rfl
     have d7 : b7 = true := hd ⟨7, .chain⟩ (by simp) rfl
     subst d0
     subst d1
     subst d2
     subst d3
     subst d4
     subst d5
     subst d6
     subst d7
     subst hf
     refine Go.Proofs.YtbmklpcheopgoaaReg.op_val ho2 rfl (v := .bool (decide (0 < pts.length))) (w1 := W') ?_ (hK _ _ ⟨true, true, true, true, true, true, true, true, true, rfl, rfl, hHB, hHW⟩)
     simp [go_sem, hu2]
   ·
    rintro lst a W' ⟨b0, b1, b2, b3, b4, b5, b6, b7, b8, rfl, rfl, hHB, hHW⟩ hall
    have a0 : b0 = true := hall 0 (by decide)
    have a1 : b1 = true := hall 1 (by decide)
    have a2 : b2 = true := hall 2 (by decide)
    have a3 : b3 = true := hall 3 (by decide)
    have a4 : b4 = true := hall 4 (by decide)
    have a5 : b5 = true := hall 5 (by decide)
    have a6 : b6 = true := hall 6 (by decide)
    have a7 : b7 = true := hall 7 (by decide)
    have a8 : b8 = true := hall 8 (by decide)
    subst a0 a1 a2 a3 a4 a5 a6 a7 a8
    clear hall
    have HB : Blks [((w.heap.size + 1 + 1), .cells #[.int .i64 (boxSt pts pts.length).2.f0, .int .i64 (boxSt pts pts.length).2.f1, .bool (boxSt pts pts.length).2.f2] 33 (0, 0)), ((w.heap.size + 1), .cells #[.int .i64 (boxSt pts pts.length).1.f0, .int .i64 (boxSt pts pts.length).1.f1, .bool (boxSt pts pts.length).1.f2] 33 (0, 0)), (w.heap.size, .cells #[.slice A0 pts.length c0, v1] 25 (0, 0))] W' := hHB
    have HW : Below w.heap.size w W' := hHW
    clear hHB hHW
    go_wp2
    refine bodyPost_ret (v := .tuple #[.agg #[.int .i64 (boxSt pts pts.length).1.f0, .int .i64 (boxSt pts pts.length).1.f1, .bool (boxSt pts pts.length).1.f2], .agg #[.int .i64 (boxSt pts pts.length).2.f0, .int .i64 (boxSt pts pts.length).2.f1, .bool (boxSt pts pts.length).2.f2], .bool (decide (0 < pts.length))]) ?_ rfl ⟨rfl, HW⟩
    simp [results, Try.f19, go_sem, HB.cell 0 rfl 0, HB.cell 0 rfl 1, HB.cell 0 rfl 2, HB.cell 1 rfl 0, HB.cell 1 rfl 1, HB.cell 1 rfl 2]
def outline_Box.f (l0_0 : List S33) (l0_1 : List Int) : Option (Int × Int × Bool × Int × Int × Bool × Bool) :=
 some ((boxSt l0_0 l0_0.length).1.f0, (boxSt l0_0 l0_0.length).1.f1, (boxSt l0_0 l0_0.length).1.f2, (boxSt l0_0 l0_0.length).2.f0, (boxSt l0_0 l0_0.length).2.f1, (boxSt l0_0 l0_0.length).2.f2, decide (0 < l0_0.length))
theorem outline_Box.calls (A0_0 : Option Addr) (c0_0 : Nat) (l0_0 : List (S33)) (A0_1 : Option Addr) (c0_1 : Nat) (l0_1 : List Int) (r1 : Int) (r2 : Int) (r3 : Bool) (r4 : Int) (r5 : Int) (r6 : Bool) (r7 : Bool) (w : World) (hr0_0 : Kd.C k33 w A0_0 l0_0.length l0_0) (hc0_0 : l0_0.length ≤ c0_0) (hr0_1 : Kd.C (Kd.int .i64) w A0_1 l0_1.length l0_1) (hc0_1 : l0_1.length ≤ c0_1) (h : outline_Box.f l0_0 l0_1 = some (r1, r2, r3, r4, r5, r6, r7)) :
  Calls Try.prog 19 #[.agg #[.slice A0_0 l0_0.length c0_0, .slice A0_1 l0_1.length c0_1]] w fun e w' => e = .returned (.tuple #[.agg #[.int .i64 r1, .int .i64 r2, .bool r3], .agg #[.int .i64 r4, .int .i64 r5, .bool r6], .bool r7]) ∧ Below w.heap.size w w' := by
 unfold outline_Box.f at h
 simp only [Option.some.injEq, Prod.mk.injEq] at h
 obtain ⟨rfl, rfl, rfl, rfl, rfl, rfl, rfl⟩ := h
 exact box_calls A0_0 c0_0 l0_0 _ w hr0_0 hc0_0
end Go.Proofs.Ytbmklpcheopgoaa.H

namespace Go.Proofs.Ytbmklpcheopgoaa.H
open Go.RowKit Go.Proofs.YtbmklpcheopgoaaW.PrintWords Go.Proofs.YtbmklpcheopgoaaW.PrintLast Go.Proofs.YtbmklpcheopgoaaW.PrintMore
attribute [local go_sem] max2_int min2_int max_two min_two max_three min_three max_four min_four
set_option linter.unusedVariables false
set_option linter.unusedSimpArgs false
mutual
def fleuronref03_Box.l0 : Nat → Int → List (S33) → List Int → Int → Int → Bool → Int → Int → Bool → Option (Int × Int × Bool × Int × Int × Bool × Bool)
 | 0, _, _, _, _, _, _, _, _, _ => none
 | k + 1, x7, x137000, x137001, x140000, x140001, x140002, x141000, x141001, x141002 => if x7 < (x137000.length : Int) then (if 0 ≤ x7 then (if x7 = 0 then (fleuronref03_Box.j1 k x7 true x137000 x137001 x140000 x140001 x140002 x141000 x141001 x141002 ((rd_T33 x137000 x7).f0) ((rd_T33 x137000 x7).f1) ((rd_T33 x137000 x7).f2)) else (fleuronref03_Box.j1 k x7 (decide (((rd_T33 x137000 x7).f0) < x140000)) x137000 x137001 x140000 x140001 x140002 x141000 x141001 x141002 ((rd_T33 x137000 x7).f0) ((rd_T33 x137000 x7).f1) ((rd_T33 x137000 x7).f2))) else (none)) else (some (x140000, x140001, x140002, x141000, x141001, x141002, decide ((x137000.length : Int) > 0)))
def fleuronref03_Box.j1 : Nat → Int → Bool → List (S33) → List Int → Int → Int → Bool → Int → Int → Bool → Int → Int → Bool → Option (Int × Int × Bool × Int × Int × Bool × Bool)
 | 0, _, _, _, _, _, _, _, _, _, _, _, _, _ => none
 | k + 1, x7, x31, x137000, x137001, x140000, x140001, x140002, x141000, x141001, x141002, x143000, x143001, x143002 => if x31 = true then (fleuronref03_Box.j2 k x7 x137000 x137001 x143000 x140001 x140002 x141000 x141001 x141002 x143000 x143001 x143002) else (fleuronref03_Box.j2 k x7 x137000 x137001 x140000 x140001 x140002 x141000 x141001 x141002 x143000 x143001 x143002)
def fleuronref03_Box.j2 : Nat → Int → List (S33) → List Int → Int → Int → Bool → Int → Int → Bool → Int → Int → Bool → Option (Int × Int × Bool × Int × Int × Bool × Bool)
 | 0, _, _, _, _, _, _, _, _, _, _, _, _ => none
 | k + 1, x7, x137000, x137001, x140000, x140001, x140002, x141000, x141001, x141002, x143000, x143001, x143002 => if x7 = 0 then (fleuronref03_Box.j3 k x7 true x137000 x137001 x140000 x140001 x140002 x141000 x141001 x141002 x143000 x143001 x143002) else (fleuronref03_Box.j3 k x7 (decide (x143001 < x140001)) x137000 x137001 x140000 x140001 x140002 x141000 x141001 x141002 x143000 x143001 x143002)
def fleuronref03_Box.j3 : Nat → Int → Bool → List (S33) → List Int → Int → Int → Bool → Int → Int → Bool → Int → Int → Bool → Option (Int × Int × Bool × Int × Int × Bool × Bool)
 | 0, _, _, _, _, _, _, _, _, _, _, _, _, _ => none
 | k + 1, x7, x43, x137000, x137001, x140000, x140001, x140002, x141000, x141001, x141002, x143000, x143001, x143002 => if x43 = true then (fleuronref03_Box.j4 k x7 x137000 x137001 x140000 x143001 x140002 x141000 x141001 x141002 x143000 x143001 x143002) else (fleuronref03_Box.j4 k x7 x137000 x137001 x140000 x140001 x140002 x141000 x141001 x141002 x143000 x143001 x143002)
def fleuronref03_Box.j4 : Nat → Int → List (S33) → List Int → Int → Int → Bool → Int → Int → Bool → Int → Int → Bool → Option (Int × Int × Bool × Int × Int × Bool × Bool)
 | 0, _, _, _, _, _, _, _, _, _, _, _, _ => none
 | k + 1, x7, x137000, x137001, x140000, x140001, x140002, x141000, x141001, x141002, x143000, x143001, x143002 => if x7 = 0 then (fleuronref03_Box.j5 k x7 true x137000 x137001 x140000 x140001 x140002 x141000 x141001 x141002 x143000 x143001 x143002) else (fleuronref03_Box.j5 k x7 (decide (x143000 > x141000)) x137000 x137001 x140000 x140001 x140002 x141000 x141001 x141002 x143000 x143001 x143002)
def fleuronref03_Box.j5 : Nat → Int → Bool → List (S33) → List Int → Int → Int → Bool → Int → Int → Bool → Int → Int → Bool → Option (Int × Int × Bool × Int × Int × Bool × Bool)
 | 0, _, _, _, _, _, _, _, _, _, _, _, _, _ => none
 | k + 1, x7, x55, x137000, x137001, x140000, x140001, x140002, x141000, x141001, x141002, x143000, x143001, x143002 => if x55 = true then (if x7 = 0 then (fleuronref03_Box.l0 k (wrap64 (x7 + 1)) x137000 x137001 x140000 x140001 x140002 x143000 x143001 x141002) else (if x143001 > x141001 then (fleuronref03_Box.l0 k (wrap64 (x7 + 1)) x137000 x137001 x140000 x140001 x140002 x143000 x143001 x141002) else (fleuronref03_Box.l0 k (wrap64 (x7 + 1)) x137000 x137001 x140000 x140001 x140002 x143000 x141001 x141002))) else (if x7 = 0 then (fleuronref03_Box.l0 k (wrap64 (x7 + 1)) x137000 x137001 x140000 x140001 x140002 x141000 x143001 x141002) else (if x143001 > x141001 then (fleuronref03_Box.l0 k (wrap64 (x7 + 1)) x137000 x137001 x140000 x140001 x140002 x141000 x143001 x141002) else (fleuronref03_Box.l0 k (wrap64 (x7 + 1)) x137000 x137001 x140000 x140001 x140002 x141000 x141001 x141002)))
end
def fleuronref03_Box.f (k : Nat) (l0_0 : List (S33)) (l0_1 : List Int) : Option (Int × Int × Bool × Int × Int × Bool × Bool) := fleuronref03_Box.l0 k 0 l0_0 l0_1 0 0 false 0 0 false
theorem fleuronref03_Box.mono_l : ∀ k, (∀ y0 y1 y2 y3 y4 y5 y6 y7 y8, LeO (fleuronref03_Box.l0 k y0 y1 y2 y3 y4 y5 y6 y7 y8) (fleuronref03_Box.l0 (k + 1) y0 y1 y2 y3 y4 y5 y6 y7 y8)) ∧ (∀ y0 y1 y2 y3 y4 y5 y6 y7 y8 y9 y10 y11 y12, LeO (fleuronref03_Box.j1 k y0 y1 y2 y3 y4 y5 y6 y7 y8 y9 y10 y11 y12) (fleuronref03_Box.j1 (k + 1) y0 y1 y2 y3 y4 y5 y6 y7 y8 y9 y10 y11 y12)) ∧ (∀ y0 y1 y2 y3 y4 y5 y6 y7 y8 y9 y10 y11, LeO (fleuronref03_Box.j2 k y0 y1 y2 y3 y4 y5 y6 y7 y8 y9 y10 y11) (fleuronref03_Box.j2 (k + 1) y0 y1 y2 y3 y4 y5 y6 y7 y8 y9 y10 y11)) ∧ (∀ y0 y1 y2 y3 y4 y5 y6 y7 y8 y9 y10 y11 y12, LeO (fleuronref03_Box.j3 k y0 y1 y2 y3 y4 y5 y6 y7 y8 y9 y10 y11 y12) (fleuronref03_Box.j3 (k + 1) y0 y1 y2 y3 y4 y5 y6 y7 y8 y9 y10 y11 y12)) ∧ (∀ y0 y1 y2 y3 y4 y5 y6 y7 y8 y9 y10 y11, LeO (fleuronref03_Box.j4 k y0 y1 y2 y3 y4 y5 y6 y7 y8 y9 y10 y11) (fleuronref03_Box.j4 (k + 1) y0 y1 y2 y3 y4 y5 y6 y7 y8 y9 y10 y11)) ∧ (∀ y0 y1 y2 y3 y4 y5 y6 y7 y8 y9 y10 y11 y12, LeO (fleuronref03_Box.j5 k y0 y1 y2 y3 y4 y5 y6 y7 y8 y9 y10 y11 y12) (fleuronref03_Box.j5 (k + 1) y0 y1 y2 y3 y4 y5 y6 y7 y8 y9 y10 y11 y12))
 | 0 => ⟨fun _ _ _ _ _ _ _ _ _ r h => by simp [fleuronref03_Box.l0] at h, fun _ _ _ _ _ _ _ _ _ _ _ _ _ r h => by simp [fleuronref03_Box.j1] at h, fun _ _ _ _ _ _ _ _ _ _ _ _ r h => by simp [fleuronref03_Box.j2] at h, fun _ _ _ _ _ _ _ _ _ _ _ _ _ r h => by simp [fleuronref03_Box.j3] at h, fun _ _ _ _ _ _ _ _ _ _ _ _ r h => by simp [fleuronref03_Box.j4] at h, fun _ _ _ _ _ _ _ _ _ _ _ _ _ r h => by simp [fleuronref03_Box.j5] at h⟩
 | k + 1 => by
  obtain ⟨ih0, ih1, ih2, ih3, ih4, ih5⟩ := fleuronref03_Box.mono_l k
  refine ⟨?_, ?_, ?_, ?_, ?_, ?_⟩
  ·
   intro y0 y1 y2 y3 y4 y5 y6 y7 y8
   unfold fleuronref03_Box.l0
   repeat' first
   | (with_reducible exact ih0 _ _ _ _ _ _ _ _ _)
   | (with_reducible exact ih1 _ _ _ _ _ _ _ _ _ _ _ _ _)
   | (with_reducible exact ih2 _ _ _ _ _ _ _ _ _ _ _ _)
   | (with_reducible exact ih3 _ _ _ _ _ _ _ _ _ _ _ _ _)
   | (with_reducible exact ih4 _ _ _ _ _ _ _ _ _ _ _ _)
   | (with_reducible exact ih5 _ _ _ _ _ _ _ _ _ _ _ _ _)
   | (with_reducible exact LeO.refl _)
   | (with_reducible exact LeO.none _)
   | (with_reducible refine LeO.ite ?_ ?_)
   | (with_reducible refine LeO.bind ?_ (fun _ => ?_))
   | exact ih0 _ _ _ _ _ _ _ _ _
   | exact ih1 _ _ _ _ _ _ _ _ _ _ _ _ _
   | exact ih2 _ _ _ _ _ _ _ _ _ _ _ _
   | exact ih3 _ _ _ _ _ _ _ _ _ _ _ _ _
   | exact ih4 _ _ _ _ _ _ _ _ _ _ _ _
   | exact ih5 _ _ _ _ _ _ _ _ _ _ _ _ _
   | exact LeO.none _
   | refine LeO.ite ?_ ?_
   | refine LeO.bind ?_ (fun _ => ?_)
  ·
   intro y0 y1 y2 y3 y4 y5 y6 y7 y8 y9 y10 y11 y12
   unfold fleuronref03_Box.j1
   repeat' first
   | (with_reducible exact ih0 _ _ _ _ _ _ _ _ _)
   | (with_reducible exact ih1 _ _ _ _ _ _ _ _ _ _ _ _ _)
   | (with_reducible exact ih2 _ _ _ _ _ _ _ _ _ _ _ _)
   | (with_reducible exact ih3 _ _ _ _ _ _ _ _ _ _ _ _ _)
   | (with_reducible exact ih4 _ _ _ _ _ _ _ _ _ _ _ _)
   | (with_reducible exact ih5 _ _ _ _ _ _ _ _ _ _ _ _ _)
   | (with_reducible exact LeO.refl _)
   | (with_reducible exact LeO.none _)
   | (with_reducible refine LeO.ite ?_ ?_)
   | (with_reducible refine LeO.bind ?_ (fun _ => ?_))
   | exact ih0 _ _ _ _ _ _ _ _ _
   | exact ih1 _ _ _ _ _ _ _ _ _ _ _ _ _
   | exact ih2 _ _ _ _ _ _ _ _ _ _ _ _
   | exact ih3 _ _ _ _ _ _ _ _ _ _ _ _ _
   | exact ih4 _ _ _ _ _ _ _ _ _ _ _ _
   | exact ih5 _ _ _ _ _ _ _ _ _ _ _ _ _
   | exact LeO.none _
   | refine LeO.ite ?_ ?_
   | refine LeO.bind ?_ (fun _ => ?_)
  ·
   intro y0 y1 y2 y3 y4 y5 y6 y7 y8 y9 y10 y11
   unfold fleuronref03_Box.j2
   repeat' first
   | (with_reducible exact ih0 _ _ _ _ _ _ _ _ _)
   | (with_reducible exact ih1 _ _ _ _ _ _ _ _ _ _ _ _ _)
   | (with_reducible exact ih2 _ _ _ _ _ _ _ _ _ _ _ _)
   | (with_reducible exact ih3 _ _ _ _ _ _ _ _ _ _ _ _ _)
   | (with_reducible exact ih4 _ _ _ _ _ _ _ _ _ _ _ _)
   | (with_reducible exact ih5 _ _ _ _ _ _ _ _ _ _ _ _ _)
   | (with_reducible exact LeO.refl _)
   | (with_reducible exact LeO.none _)
   | (with_reducible refine LeO.ite ?_ ?_)
   | (with_reducible refine LeO.bind ?_ (fun _ => ?_))
   | exact ih0 _ _ _ _ _ _ _ _ _
   | exact ih1 _ _ _ _ _ _ _ _ _ _ _ _ _
   | exact ih2 _ _ _ _ _ _ _ _ _ _ _ _
   | exact ih3 _ _ _ _ _ _ _ _ _ _ _ _ _
   | exact ih4 _ _ _ _ _ _ _ _ _ _ _ _
   | exact ih5 _ _ _ _ _ _ _ _ _ _ _ _ _
   | exact LeO.none _
   | refine LeO.ite ?_ ?_
   | refine LeO.bind ?_ (fun _ => ?_)
  ·
   intro y0 y1 y2 y3 y4 y5 y6 y7 y8 y9 y10 y11 y12
   unfold fleuronref03_Box.j3
   repeat' first
   | (with_reducible exact ih0 _ _ _ _ _ _ _ _ _)
   | (with_reducible exact ih1 _ _ _ _ _ _ _ _ _ _ _ _ _)
   | (with_reducible exact ih2 _ _ _ _ _ _ _ _ _ _ _ _)
   | (with_reducible exact ih3 _ _ _ _ _ _ _ _ _ _ _ _ _)
   | (with_reducible exact ih4 _ _ _ _ _ _ _ _ _ _ _ _)
   | (with_reducible exact ih5 _ _ _ _ _ _ _ _ _ _ _ _ _)
   | (with_reducible exact LeO.refl _)
   | (with_reducible exact LeO.none _)
   | (with_reducible refine LeO.ite ?_ ?_)
   | (with_reducible refine LeO.bind ?_ (fun _ => ?_))
   | exact ih0 _ _ _ _ _ _ _ _ _
   | exact ih1 _ _ _ _ _ _ _ _ _ _ _ _ _
   | exact ih2 _ _ _ _ _ _ _ _ _ _ _ _
   | exact ih3 _ _ _ _ _ _ _ _ _ _ _ _ _
   | exact ih4 _ _ _ _ _ _ _ _ _ _ _ _
   | exact ih5 _ _ _ _ _ _ _ _ _ _ _ _ _
   | exact LeO.none _
   | refine LeO.ite ?_ ?_
   | refine LeO.bind ?_ (fun _ => ?_)
  ·
   intro y0 y1 y2 y3 y4 y5 y6 y7 y8 y9 y10 y11
   unfold fleuronref03_Box.j4
   repeat' first
   | (with_reducible exact ih0 _ _ _ _ _ _ _ _ _)
   | (with_reducible exact ih1 _ _ _ _ _ _ _ _ _ _ _ _ _)
   | (with_reducible exact ih2 _ _ _ _ _ _ _ _ _ _ _ _)
   | (with_reducible exact ih3 _ _ _ _ _ _ _ _ _ _ _ _ _)
   | (with_reducible exact ih4 _ _ _ _ _ _ _ _ _ _ _ _)
   | (with_reducible exact ih5 _ _ _ _ _ _ _ _ _ _ _ _ _)
   | (with_reducible exact LeO.refl _)
   | (with_reducible exact LeO.none _)
   | (with_reducible refine LeO.ite ?_ ?_)
   | (with_reducible refine LeO.bind ?_ (fun _ => ?_))
   | exact ih0 _ _ _ _ _ _ _ _ _
   | exact ih1 _ _ _ _ _ _ _ _ _ _ _ _ _
   | exact ih2 _ _ _ _ _ _ _ _ _ _ _ _
   | exact ih3 _ _ _ _ _ _ _ _ _ _ _ _ _
   | exact ih4 _ _ _ _ _ _ _ _ _ _ _ _
   | exact ih5 _ _ _ _ _ _ _ _ _ _ _ _ _
   | exact LeO.none _
   | refine LeO.ite ?_ ?_
   | refine LeO.bind ?_ (fun _ => ?_)
  ·
   intro y0 y1 y2 y3 y4 y5 y6 y7 y8 y9 y10 y11 y12
   unfold fleuronref03_Box.j5
   repeat' first
   | (with_reducible exact ih0 _ _ _ _ _ _ _ _ _)
   | (with_reducible exact ih1 _ _ _ _ _ _ _ _ _ _ _ _ _)
   | (with_reducible exact ih2 _ _ _ _ _ _ _ _ _ _ _ _)
   | (with_reducible exact ih3 _ _ _ _ _ _ _ _ _ _ _ _ _)
   | (with_reducible exact ih4 _ _ _ _ _ _ _ _ _ _ _ _)
   | (with_reducible exact ih5 _ _ _ _ _ _ _ _ _ _ _ _ _)
   | (with_reducible exact LeO.refl _)
   | (with_reducible exact LeO.none _)
   | (with_reducible refine LeO.ite ?_ ?_)
   | (with_reducible refine LeO.bind ?_ (fun _ => ?_))
   | exact ih0 _ _ _ _ _ _ _ _ _
   | exact ih1 _ _ _ _ _ _ _ _ _ _ _ _ _
   | exact ih2 _ _ _ _ _ _ _ _ _ _ _ _
   | exact ih3 _ _ _ _ _ _ _ _ _ _ _ _ _
   | exact ih4 _ _ _ _ _ _ _ _ _ _ _ _
   | exact ih5 _ _ _ _ _ _ _ _ _ _ _ _ _
   | exact LeO.none _
   | refine LeO.ite ?_ ?_
   | refine LeO.bind ?_ (fun _ => ?_)
theorem fleuronref03_Box.mono : ∀ a0 a1 k, LeO (fleuronref03_Box.f k a0 a1) (fleuronref03_Box.f (k + 1) a0 a1) := by
 intro a0 a1 k
 obtain ⟨ih0, ih1, ih2, ih3, ih4, ih5⟩ := fleuronref03_Box.mono_l k
 unfold fleuronref03_Box.f
 repeat' first
   | (with_reducible exact ih0 _ _ _ _ _ _ _ _ _)
   | (with_reducible exact ih1 _ _ _ _ _ _ _ _ _ _ _ _ _)
   | (with_reducible exact ih2 _ _ _ _ _ _ _ _ _ _ _ _)
   | (with_reducible exact ih3 _ _ _ _ _ _ _ _ _ _ _ _ _)
   | (with_reducible exact ih4 _ _ _ _ _ _ _ _ _ _ _ _)
   | (with_reducible exact ih5 _ _ _ _ _ _ _ _ _ _ _ _ _)
   | (with_reducible exact LeO.refl _)
   | (with_reducible exact LeO.none _)
   | (with_reducible refine LeO.ite ?_ ?_)
   | (with_reducible refine LeO.bind ?_ (fun _ => ?_))
   | exact ih0 _ _ _ _ _ _ _ _ _
   | exact ih1 _ _ _ _ _ _ _ _ _ _ _ _ _
   | exact ih2 _ _ _ _ _ _ _ _ _ _ _ _
   | exact ih3 _ _ _ _ _ _ _ _ _ _ _ _ _
   | exact ih4 _ _ _ _ _ _ _ _ _ _ _ _
   | exact ih5 _ _ _ _ _ _ _ _ _ _ _ _ _
   | exact LeO.none _
   | refine LeO.ite ?_ ?_
   | refine LeO.bind ?_ (fun _ => ?_)
def fleuronref03_Box.T15 : Bool × List (List Nat × List Nat) := (true, [([], []), ([], []), ([], []), ([2], [2]), ([3], [3]), ([4], [4]), ([0, 0], [0]), ([1, 6, 0, 1, 6], [1]), ([5, 7, 0, 1, 2, 3, 4, 5, 6, 7], [5])])
def fleuronref03_Box.B15 : List Nat := [0, 0, 0, 4, 12, 28, 1, 67, 255]
theorem fleuronref03_Box.tab15 : rtab .any (opsOf Try.f20 15) = fleuronref03_Box.T15 := by kernel_rfl
theorem fleuronref03_Box.bits15 : waitsOk fleuronref03_Box.T15.2 fleuronref03_Box.B15 = true := by kernel_rfl
set_option maxHeartbeats 8000000 in
set_option maxRecDepth 100000 in
theorem fleuronref03_Box.calls (k : Nat) (A0_0 : Option Addr) (c0_0 : Nat) (l0_0 : List (S33)) (A0_1 : Option Addr) (c0_1 : Nat) (l0_1 : List Int) (r1 : Int) (r2 : Int) (r3 : Bool) (r4 : Int) (r5 : Int) (r6 : Bool) (r7 : Bool) (w : World) (hr0_0 : Kd.C k33 w A0_0 l0_0.length l0_0) (hc0_0 : l0_0.length ≤ c0_0) (hr0_1 : Kd.C (Kd.int .i64) w A0_1 l0_1.length l0_1) (hc0_1 : l0_1.length ≤ c0_1) (h : fleuronref03_Box.f k l0_0 l0_1 = some (r1, r2, r3, r4, r5, r6, r7)) :
  Calls Try.prog 20 #[.agg #[.slice A0_0 l0_0.length c0_0, .slice A0_1 l0_1.length c0_1]] w fun e w' => e = .returned (.tuple #[.agg #[.int .i64 r1, .int .i64 r2, .bool r3], .agg #[.int .i64 r4, .int .i64 r5, .bool r6], .bool r7]) ∧ Below w.heap.size w w' := by
 have hu25 := Try.underlying25
 have hu33 := Try.underlying33
 have HR0_0 := aM hr0_0
 have HC0_0 := aM hc0_0
 clear hr0_0 hc0_0
 have HR0_1 := aM hr0_1
 have HC0_1 := aM hc0_1
 clear hr0_1 hc0_1
 have HB := aM (Below.refl w.heap.size w)
 have H : (fleuronref03_Box.l0 k 0 l0_0 l0_1 0 0 false 0 0 false) = some (r1, r2, r3, r4, r5, r6, r7) := h
 clear h
 have H' := aM H
 clear H
 go_enter Try.func20, Try.ntmps20
 go_wp2_with (first | ((with_reducible refine gate_dst (N := 1) rfl ?_); refine box_event ?hg (N := 1) ?hd (cs := #[.slice A0_0 l0_0.length c0_0, .slice A0_1 l0_1.length c0_1]) (t := 25) ?hr ?_; (case hd => rfl); (case hg => rfl); (case hr => first | (go_simp; done) | (go_simp; rfl)); intro gb136 hg w2 hbox hb; have n0_ := aM (below_step (by repeat (first | (with_reducible first | exact HB.out | apply bA | apply bN | apply bD) | exact HB.out)) hb); have n1_ := aM (hbox); have n2_ := aM ((by rw [hg]; exact (below_size (by repeat (first | (with_reducible first | exact HB.out | apply bA | apply bN | apply bD) | exact HB.out))) : w.heap.size ≤ gb136)); have n3_ := aM ((by rw [hg]; exact (below_size (by repeat (first | (with_reducible first | exact HB.out | apply bA | apply bN | apply bD) | exact HB.out))) : w.heap.size ≤ gb136)); clear HB; have HB := n0_; have BK136 := n1_; have GW136 := n2_; have GE136 := n3_; clear n0_ n1_ n2_ n3_; clear hb hbox hg) | ((with_reducible refine gate_dst (N := 2) rfl ?_); refine box_event ?hg (N := 2) ?hd (cs := #[.int .i64 0, .int .i64 0, .bool false]) (t := 33) ?hr ?_; (case hd => rfl); (case hg => rfl); (case hr => first | (go_simp; done) | (go_simp; rfl)); intro gb137 hg w3 hbox hb; have n0_ := aM (blk_below (g := gb136) (o := .cells #[.slice A0_0 l0_0.length c0_0, .slice A0_1 l0_1.length c0_1] 25 (0, 0)) (by (with_reducible repeat (first | refine kN ?_ _ | refine kD ?_ | refine kA ?_ _)); exact BK136.out) hb); have n1_ := aM (below_step (by repeat (first | (with_reducible first | exact HB.out | apply bA | apply bN | apply bD | refine bS ?_ GE136.out) | exact HB.out)) hb); have n2_ := aM (hbox); have n3_ := aM ((by rw [hg]; exact (below_size (by repeat (first | (with_reducible first | exact HB.out | apply bA | apply bN | apply bD | refine bS ?_ GE136.out) | exact HB.out))) : w.heap.size ≤ gb137)); have n4_ := aM ((by rw [hg]; exact (below_size (by repeat (first | (with_reducible first | exact HB.out | apply bA | apply bN | apply bD | refine bS ?_ GE136.out) | exact HB.out))) : w.heap.size ≤ gb137)); have n5_ := aM ((by rw [hg]; exact Nat.ne_of_lt (blk_lt (g := gb136) (o := .cells #[.slice A0_0 l0_0.length c0_0, .slice A0_1 l0_1.length c0_1] 25 (0, 0)) (by (with_reducible repeat (first | refine kN ?_ _ | refine kD ?_ | refine kA ?_ _)); exact BK136.out)) : gb136 ≠ gb137)); have n6_ := aM ((by rw [hg]; exact Nat.ne_of_gt (blk_lt (g := gb136) (o := .cells #[.slice A0_0 l0_0.length c0_0, .slice A0_1 l0_1.length c0_1] 25 (0, 0)) (by (with_reducible repeat (first | refine kN ?_ _ | refine kD ?_ | refine kA ?_ _)); exact BK136.out)) : gb137 ≠ gb136)); clear BK136; clear HB; have BK136 := n0_; have HB := n1_; have BK137 := n2_; have GW137 := n3_; have GE137 := n4_; have NB136_137 := n5_; have NB137_136 := n6_; clear n0_ n1_ n2_ n3_ n4_ n5_ n6_; clear hb hbox hg) | ((with_reducible refine gate_dst (N := 3) rfl ?_); refine box_event ?hg (N := 3) ?hd (cs := #[.int .i64 0, .int .i64 0, .bool false]) (t := 33) ?hr ?_; (case hd => rfl); (case hg => rfl); (case hr => first | (go_simp; done) | (go_simp; rfl)); intro gb138 hg w4 hbox hb; have n0_ := aM (blk_below (g := gb136) (o := .cells #[.slice A0_0 l0_0.length c0_0, .slice A0_1 l0_1.length c0_1] 25 (0, 0)) (by (with_reducible repeat (first | refine kN ?_ _ | refine kD ?_ | refine kA ?_ _)); exact BK136.out) hb); have n1_ := aM (blk_below (g := gb137) (o := .cells #[.int .i64 0, .int .i64 0, .bool false] 33 (0, 0)) (by (with_reducible repeat (first | refine kN ?_ _ | refine kD ?_ | refine kA ?_ _)); exact BK137.out) hb); have n2_ := aM (below_step (by repeat (first | (with_reducible first | exact HB.out | apply bA | apply bN | apply bD | refine bS ?_ GE136.out | refine bS ?_ GE137.out) | exact HB.out)) hb); have n3_ := aM (hbox); have n4_ := aM ((by rw [hg]; exact (below_size (by repeat (first | (with_reducible first | exact HB.out | apply bA | apply bN | apply bD | refine bS ?_ GE136.out | refine bS ?_ GE137.out) | exact HB.out))) : w.heap.size ≤ gb138)); have n5_ := aM ((by rw [hg]; exact (below_size (by repeat (first | (with_reducible first | exact HB.out | apply bA | apply bN | apply bD | refine bS ?_ GE136.out | refine bS ?_ GE137.out) | exact HB.out))) : w.heap.size ≤ gb138)); have n6_ := aM ((by rw [hg]; exact Nat.ne_of_lt (blk_lt (g := gb136) (o := .cells #[.slice A0_0 l0_0.length c0_0, .slice A0_1 l0_1.length c0_1] 25 (0, 0)) (by (with_reducible repeat (first | refine kN ?_ _ | refine kD ?_ | refine kA ?_ _)); exact BK136.out)) : gb136 ≠ gb138)); have n7_ := aM ((by rw [hg]; exact Nat.ne_of_gt (blk_lt (g := gb136) (o := .cells #[.slice A0_0 l0_0.length c0_0, .slice A0_1 l0_1.length c0_1] 25 (0, 0)) (by (with_reducible repeat (first | refine kN ?_ _ | refine kD ?_ | refine kA ?_ _)); exact BK136.out)) : gb138 ≠ gb136)); have n8_ := aM ((by rw [hg]; exact Nat.ne_of_lt (blk_lt (g := gb137) (o := .cells #[.int .i64 0, .int .i64 0, .bool false] 33 (0, 0)) (by (with_reducible repeat (first | refine kN ?_ _ | refine kD ?_ | refine kA ?_ _)); exact BK137.out)) : gb137 ≠ gb138)); have n9_ := aM ((by rw [hg]; exact Nat.ne_of_gt (blk_lt (g := gb137) (o := .cells #[.int .i64 0, .int .i64 0, .bool false] 33 (0, 0)) (by (with_reducible repeat (first | refine kN ?_ _ | refine kD ?_ | refine kA ?_ _)); exact BK137.out)) : gb138 ≠ gb137)); clear BK136; clear BK137; clear HB; have BK136 := n0_; have BK137 := n1_; have HB := n2_; have BK138 := n3_; have GW138 := n4_; have GE138 := n5_; have NB136_138 := n6_; have NB138_136 := n7_; have NB137_138 := n8_; have NB138_137 := n9_; clear n0_ n1_ n2_ n3_ n4_ n5_ n6_ n7_ n8_ n9_; clear hb hbox hg) | ((with_reducible refine gate_dst (N := 5) rfl ?_); refine box_event ?hg (N := 5) ?hd (cs := #[.int .i64 0, .int .i64 0, .bool false]) (t := 33) ?hr ?_; (case hd => rfl); (case hg => rfl); (case hr => first | (go_simp; done) | (go_simp; rfl)); intro gb139 hg w5 hbox hb; have n0_ := aM (blk_below (g := gb136) (o := .cells #[.slice A0_0 l0_0.length c0_0, .slice A0_1 l0_1.length c0_1] 25 (0, 0)) (by (with_reducible repeat (first | refine kN ?_ _ | refine kD ?_ | refine kA ?_ _)); exact BK136.out) hb); have n1_ := aM (blk_below (g := gb137) (o := .cells #[.int .i64 0, .int .i64 0, .bool false] 33 (0, 0)) (by (with_reducible repeat (first | refine kN ?_ _ | refine kD ?_ | refine kA ?_ _)); exact BK137.out) hb); have n2_ := aM (blk_below (g := gb138) (o := .cells #[.int .i64 0, .int .i64 0, .bool false] 33 (0, 0)) (by (with_reducible repeat (first | refine kN ?_ _ | refine kD ?_ | refine kA ?_ _)); exact BK138.out) hb); have n3_ := aM (below_step (by repeat (first | (with_reducible first | exact HB.out | apply bA | apply bN | apply bD | refine bS ?_ GE136.out | refine bS ?_ GE137.out | refine bS ?_ GE138.out) | exact HB.out)) hb); have n4_ := aM (hbox); have n5_ := aM ((by rw [hg]; exact (below_size (by repeat (first | (with_reducible first | exact HB.out | apply bA | apply bN | apply bD | refine bS ?_ GE136.out | refine bS ?_ GE137.out | refine bS ?_ GE138.out) | exact HB.out))) : w.heap.size ≤ gb139)); have n6_ := aM ((by rw [hg]; exact (below_size (by repeat (first | (with_reducible first | exact HB.out | apply bA | apply bN | apply bD | refine bS ?_ GE136.out | refine bS ?_ GE137.out | refine bS ?_ GE138.out) | exact HB.out))) : w.heap.size ≤ gb139)); have n7_ := aM ((by rw [hg]; exact Nat.ne_of_lt (blk_lt (g := gb136) (o := .cells #[.slice A0_0 l0_0.length c0_0, .slice A0_1 l0_1.length c0_1] 25 (0, 0)) (by (with_reducible repeat (first | refine kN ?_ _ | refine kD ?_ | refine kA ?_ _)); exact BK136.out)) : gb136 ≠ gb139)); have n8_ := aM ((by rw [hg]; exact Nat.ne_of_gt (blk_lt (g := gb136) (o := .cells #[.slice A0_0 l0_0.length c0_0, .slice A0_1 l0_1.length c0_1] 25 (0, 0)) (by (with_reducible repeat (first | refine kN ?_ _ | refine kD ?_ | refine kA ?_ _)); exact BK136.out)) : gb139 ≠ gb136)); have n9_ := aM ((by rw [hg]; exact Nat.ne_of_lt (blk_lt (g := gb137) (o := .cells #[.int .i64 0, .int .i64 0, .bool false] 33 (0, 0)) (by (with_reducible repeat (first | refine kN ?_ _ | refine kD ?_ | refine kA ?_ _)); exact BK137.out)) : gb137 ≠ gb139)); have n10_ := aM ((by rw [hg]; exact Nat.ne_of_gt (blk_lt (g := gb137) (o := .cells #[.int .i64 0, .int .i64 0, .bool false] 33 (0, 0)) (by (with_reducible repeat (first | refine kN ?_ _ | refine kD ?_ | refine kA ?_ _)); exact BK137.out)) : gb139 ≠ gb137)); have n11_ := aM ((by rw [hg]; exact Nat.ne_of_lt (blk_lt (g := gb138) (o := .cells #[.int .i64 0, .int .i64 0, .bool false] 33 (0, 0)) (by (with_reducible repeat (first | refine kN ?_ _ | refine kD ?_ | refine kA ?_ _)); exact BK138.out)) : gb138 ≠ gb139)); have n12_ := aM ((by rw [hg]; exact Nat.ne_of_gt (blk_lt (g := gb138) (o := .cells #[.int .i64 0, .int .i64 0, .bool false] 33 (0, 0)) (by (with_reducible repeat (first | refine kN ?_ _ | refine kD ?_ | refine kA ?_ _)); exact BK138.out)) : gb139 ≠ gb138)); clear BK136; clear BK137; clear BK138; clear HB; have BK136 := n0_; have BK137 := n1_; have BK138 := n2_; have HB := n3_; have BK139 := n4_; have GW139 := n5_; have GE139 := n6_; have NB136_139 := n7_; have NB139_136 := n8_; have NB137_139 := n9_; have NB139_137 := n10_; have NB138_139 := n11_; have NB139_138 := n12_; clear n0_ n1_ n2_ n3_ n4_ n5_ n6_ n7_ n8_ n9_ n10_ n11_ n12_; clear hb hbox hg; have hnb6 := NB139_136.out; have hnc6 := NB136_139.out; have hnb7 := NB139_137.out; have hnc7 := NB137_139.out; have hnb8 := NB139_138.out; have hnc8 := NB138_139.out; have hcz9_0 : w5.cell? ⟨gb139, 0, none⟩ = some (.int .i64 0) := (blk_cell BK139.out 0).trans rfl; have hcz9_1 : w5.cell? ⟨gb139, 1, none⟩ = some (.int .i64 0) := (blk_cell BK139.out 1).trans rfl; have hcz9_2 : w5.cell? ⟨gb139, 2, none⟩ = some (.bool false) := (blk_cell BK139.out 2).trans rfl; have hfz9_0 := blk_frozen BK139.out 0; have hfz9_1 := blk_frozen BK139.out 1; have hfz9_2 := blk_frozen BK139.out 2) | ((with_reducible refine gate_dst (N := 6) rfl ?_); refine box_event ?hg (N := 6) ?hd (cs := #[.int .i64 0, .int .i64 0, .bool false]) (t := 33) ?hr ?_; (case hd => rfl); (case hg => rfl); (case hr => first | (go_simp; done) | (go_simp; rfl)); intro gb140 hg w10 hbox hb; have n0_ := aM (blk_below (g := gb136) (o := .cells #[.slice A0_0 l0_0.length c0_0, .slice A0_1 l0_1.length c0_1] 25 (0, 0)) (by (with_reducible repeat (first | refine kN ?_ _ | refine kD ?_ | refine kA ?_ _)); refine blk_far ?_ NB136_139.out _; (with_reducible repeat (first | refine kN ?_ _ | refine kD ?_ | refine kA ?_ _)); refine blk_far ?_ NB136_139.out _; (with_reducible repeat (first | refine kN ?_ _ | refine kD ?_ | refine kA ?_ _)); refine blk_far ?_ NB136_139.out _; (with_reducible repeat (first | refine kN ?_ _ | refine kD ?_ | refine kA ?_ _)); exact BK136.out) hb); have n1_ := aM (blk_below (g := gb137) (o := .cells #[.int .i64 0, .int .i64 0, .bool false] 33 (0, 0)) (by (with_reducible repeat (first | refine kN ?_ _ | refine kD ?_ | refine kA ?_ _)); refine blk_far ?_ NB137_139.out _; (with_reducible repeat (first | refine kN ?_ _ | refine kD ?_ | refine kA ?_ _)); refine blk_far ?_ NB137_139.out _; (with_reducible repeat (first | refine kN ?_ _ | refine kD ?_ | refine kA ?_ _)); refine blk_far ?_ NB137_139.out _; (with_reducible repeat (first | refine kN ?_ _ | refine kD ?_ | refine kA ?_ _)); exact BK137.out) hb); have n2_ := aM (blk_below (g := gb138) (o := .cells #[.int .i64 0, .int .i64 0, .bool false] 33 (0, 0)) (by (with_reducible repeat (first | refine kN ?_ _ | refine kD ?_ | refine kA ?_ _)); refine blk_far ?_ NB138_139.out _; (with_reducible repeat (first | refine kN ?_ _ | refine kD ?_ | refine kA ?_ _)); refine blk_far ?_ NB138_139.out _; (with_reducible repeat (first | refine kN ?_ _ | refine kD ?_ | refine kA ?_ _)); refine blk_far ?_ NB138_139.out _; (with_reducible repeat (first | refine kN ?_ _ | refine kD ?_ | refine kA ?_ _)); exact BK138.out) hb); have n3_ := aM (blk_below (g := gb139) (o := .cells #[.int .i64 0, .int .i64 0, .bool false] 33 (0, 0)) (by (with_reducible repeat (first | refine kN ?_ _ | refine kD ?_ | refine kA ?_ _)); refine blk_put (cs := #[.int .i64 0, .int .i64 0, .bool false]) ?_ 2 _ rfl; (with_reducible repeat (first | refine kN ?_ _ | refine kD ?_ | refine kA ?_ _)); refine blk_put (cs := #[.int .i64 0, .int .i64 0, .bool false]) ?_ 1 _ rfl; (with_reducible repeat (first | refine kN ?_ _ | refine kD ?_ | refine kA ?_ _)); refine blk_put (cs := #[.int .i64 0, .int .i64 0, .bool false]) ?_ 0 _ rfl; (with_reducible repeat (first | refine kN ?_ _ | refine kD ?_ | refine kA ?_ _)); exact BK139.out) hb); have n4_ := aM (below_step (by repeat (first | (with_reducible first | exact HB.out | apply bA | apply bN | apply bD | refine bS ?_ GE136.out | refine bS ?_ GE137.out | refine bS ?_ GE138.out | refine bS ?_ GE139.out) | exact HB.out)) hb); have n5_ := aM (hbox); have n6_ := aM ((by rw [hg]; exact (below_size (by repeat (first | (with_reducible first | exact HB.out | apply bA | apply bN | apply bD | refine bS ?_ GE136.out | refine bS ?_ GE137.out | refine bS ?_ GE138.out | refine bS ?_ GE139.out) | exact HB.out))) : w.heap.size ≤ gb140)); have n7_ := aM ((by rw [hg]; exact (below_size (by repeat (first | (with_reducible first | exact HB.out | apply bA | apply bN | apply bD | refine bS ?_ GE136.out | refine bS ?_ GE137.out | refine bS ?_ GE138.out | refine bS ?_ GE139.out) | exact HB.out))) : w.heap.size ≤ gb140)); have n8_ := aM ((by rw [hg]; exact Nat.ne_of_lt (blk_lt (g := gb136) (o := .cells #[.slice A0_0 l0_0.length c0_0, .slice A0_1 l0_1.length c0_1] 25 (0, 0)) (by (with_reducible repeat (first | refine kN ?_ _ | refine kD ?_ | refine kA ?_ _)); refine blk_far ?_ NB136_139.out _; (with_reducible repeat (first | refine kN ?_ _ | refine kD ?_ | refine kA ?_ _)); refine blk_far ?_ NB136_139.out _; (with_reducible repeat (first | refine kN ?_ _ | refine kD ?_ | refine kA ?_ _)); refine blk_far ?_ NB136_139.out _; (with_reducible repeat (first | refine kN ?_ _ | refine kD ?_ | refine kA ?_ _)); exact BK136.out)) : gb136 ≠ gb140)); have n9_ := aM ((by rw [hg]; exact Nat.ne_of_gt (blk_lt (g := gb136) (o := .cells #[.slice A0_0 l0_0.length c0_0, .slice A0_1 l0_1.length c0_1] 25 (0, 0)) (by (with_reducible repeat (first | refine kN ?_ _ | refine kD ?_ | refine kA ?_ _)); refine blk_far ?_ NB136_139.out _; (with_reducible repeat (first | refine kN ?_ _ | refine kD ?_ | refine kA ?_ _)); refine blk_far ?_ NB136_139.out _; (with_reducible repeat (first | refine kN ?_ _ | refine kD ?_ | refine kA ?_ _)); refine blk_far ?_ NB136_139.out _; (with_reducible repeat (first | refine kN ?_ _ | refine kD ?_ | refine kA ?_ _)); exact BK136.out)) : gb140 ≠ gb136)); have n10_ := aM ((by rw [hg]; exact Nat.ne_of_lt (blk_lt (g := gb137) (o := .cells #[.int .i64 0, .int .i64 0, .bool false] 33 (0, 0)) (by (with_reducible repeat (first | refine kN ?_ _ | refine kD ?_ | refine kA ?_ _)); refine blk_far ?_ NB137_139.out _; (with_reducible repeat (first | refine kN ?_ _ | refine kD ?_ | refine kA ?_ _)); refine blk_far ?_ NB137_139.out _; (with_reducible repeat (first | refine kN ?_ _ | refine kD ?_ | refine kA ?_ _)); refine blk_far ?_ NB137_139.out _; (with_reducible repeat (first | refine kN ?_ _ | refine kD ?_ | refine kA ?_ _)); exact BK137.out)) : gb137 ≠ gb140)); have n11_ := aM ((by rw [hg]; exact Nat.ne_of_gt (blk_lt (g := gb137) (o := .cells #[.int .i64 0, .int .i64 0, .bool false] 33 (0, 0)) (by (with_reducible repeat (first | refine kN ?_ _ | refine kD ?_ | refine kA ?_ _)); refine blk_far ?_ NB137_139.out _; (with_reducible repeat (first | refine kN ?_ _ | refine kD ?_ | refine kA ?_ _)); refine blk_far ?_ NB137_139.out _; (with_reducible repeat (first | refine kN ?_ _ | refine kD ?_ | refine kA ?_ _)); refine blk_far ?_ NB137_139.out _; (with_reducible repeat (first | refine kN ?_ _ | refine kD ?_ | refine kA ?_ _)); exact BK137.out)) : gb140 ≠ gb137)); have n12_ := aM ((by rw [hg]; exact Nat.ne_of_lt (blk_lt (g := gb138) (o := .cells #[.int .i64 0, .int .i64 0, .bool false] 33 (0, 0)) (by (with_reducible repeat (first | refine kN ?_ _ | refine kD ?_ | refine kA ?_ _)); refine blk_far ?_ NB138_139.out _; (with_reducible repeat (first | refine kN ?_ _ | refine kD ?_ | refine kA ?_ _)); refine blk_far ?_ NB138_139.out _; (with_reducible repeat (first | refine kN ?_ _ | refine kD ?_ | refine kA ?_ _)); refine blk_far ?_ NB138_139.out _; (with_reducible repeat (first | refine kN ?_ _ | refine kD ?_ | refine kA ?_ _)); exact BK138.out)) : gb138 ≠ gb140)); have n13_ := aM ((by rw [hg]; exact Nat.ne_of_gt (blk_lt (g := gb138) (o := .cells #[.int .i64 0, .int .i64 0, .bool false] 33 (0, 0)) (by (with_reducible repeat (first | refine kN ?_ _ | refine kD ?_ | refine kA ?_ _)); refine blk_far ?_ NB138_139.out _; (with_reducible repeat (first | refine kN ?_ _ | refine kD ?_ | refine kA ?_ _)); refine blk_far ?_ NB138_139.out _; (with_reducible repeat (first | refine kN ?_ _ | refine kD ?_ | refine kA ?_ _)); refine blk_far ?_ NB138_139.out _; (with_reducible repeat (first | refine kN ?_ _ | refine kD ?_ | refine kA ?_ _)); exact BK138.out)) : gb140 ≠ gb138)); have n14_ := aM ((by rw [hg]; exact Nat.ne_of_lt (blk_lt (g := gb139) (o := .cells #[.int .i64 0, .int .i64 0, .bool false] 33 (0, 0)) (by (with_reducible repeat (first | refine kN ?_ _ | refine kD ?_ | refine kA ?_ _)); refine blk_put (cs := #[.int .i64 0, .int .i64 0, .bool false]) ?_ 2 _ rfl; (with_reducible repeat (first | refine kN ?_ _ | refine kD ?_ | refine kA ?_ _)); refine blk_put (cs := #[.int .i64 0, .int .i64 0, .bool false]) ?_ 1 _ rfl; (with_reducible repeat (first | refine kN ?_ _ | refine kD ?_ | refine kA ?_ _)); refine blk_put (cs := #[.int .i64 0, .int .i64 0, .bool false]) ?_ 0 _ rfl; (with_reducible repeat (first | refine kN ?_ _ | refine kD ?_ | refine kA ?_ _)); exact BK139.out)) : gb139 ≠ gb140)); have n15_ := aM ((by rw [hg]; exact Nat.ne_of_gt (blk_lt (g := gb139) (o := .cells #[.int .i64 0, .int .i64 0, .bool false] 33 (0, 0)) (by (with_reducible repeat (first | refine kN ?_ _ | refine kD ?_ | refine kA ?_ _)); refine blk_put (cs := #[.int .i64 0, .int .i64 0, .bool false]) ?_ 2 _ rfl; (with_reducible repeat (first | refine kN ?_ _ | refine kD ?_ | refine kA ?_ _)); refine blk_put (cs := #[.int .i64 0, .int .i64 0, .bool false]) ?_ 1 _ rfl; (with_reducible repeat (first | refine kN ?_ _ | refine kD ?_ | refine kA ?_ _)); refine blk_put (cs := #[.int .i64 0, .int .i64 0, .bool false]) ?_ 0 _ rfl; (with_reducible repeat (first | refine kN ?_ _ | refine kD ?_ | refine kA ?_ _)); exact BK139.out)) : gb140 ≠ gb139)); clear BK136; clear BK137; clear BK138; clear BK139; clear HB; have BK136 := n0_; have BK137 := n1_; have BK138 := n2_; have BK139 := n3_; have HB := n4_; have BK140 := n5_; have GW140 := n6_; have GE140 := n7_; have NB136_140 := n8_; have NB140_136 := n9_; have NB137_140 := n10_; have NB140_137 := n11_; have NB138_140 := n12_; have NB140_138 := n13_; have NB139_140 := n14_; have NB140_139 := n15_; clear n0_ n1_ n2_ n3_ n4_ n5_ n6_ n7_ n8_ n9_ n10_ n11_ n12_ n13_ n14_ n15_; clear hb hbox hg; have hnb11 := NB140_136.out; have hnc11 := NB136_140.out; have hnb12 := NB140_137.out; have hnc12 := NB137_140.out; have hnb13 := NB140_138.out; have hnc13 := NB138_140.out; have hnb14 := NB140_139.out; have hnc14 := NB139_140.out; have hcz15_0 : w10.cell? ⟨gb140, 0, none⟩ = some (.int .i64 0) := (blk_cell BK140.out 0).trans rfl; have hcz15_1 : w10.cell? ⟨gb140, 1, none⟩ = some (.int .i64 0) := (blk_cell BK140.out 1).trans rfl; have hcz15_2 : w10.cell? ⟨gb140, 2, none⟩ = some (.bool false) := (blk_cell BK140.out 2).trans rfl; have hfz15_0 := blk_frozen BK140.out 0; have hfz15_1 := blk_frozen BK140.out 1; have hfz15_2 := blk_frozen BK140.out 2))
 go_loopg [7] k (fun kq v7 w' => ∃ (x7_1 : Int) (x140000_1 : Int) (x140001_1 : Int) (x141000_1 : Int) (x141001_1 : Int), v7 = .int .i64 x7_1 ∧ Aside0 (fleuronref03_Box.l0 kq x7_1 l0_0 l0_1 x140000_1 x140001_1 false x141000_1 x141001_1 false = some (r1, r2, r3, r4, r5, r6, r7)) ∧ Aside0 (kq ≤ k) ∧ Aside0 (w'.heap[gb136]? = some (.cells #[(.slice A0_0 l0_0.length c0_0), (.slice A0_1 l0_1.length c0_1)] 25 (0, 0))) ∧ Aside0 (w'.heap[gb137]? = some (.cells #[.int .i64 0, .int .i64 0, .bool false] 33 (0, 0))) ∧ Aside0 (w'.heap[gb138]? = some (.cells #[.int .i64 0, .int .i64 0, .bool false] 33 (0, 0))) ∧ Aside0 (w'.heap[gb139]? = some (.cells #[.int .i64 x140000_1, .int .i64 x140001_1, .bool false] 33 (0, 0))) ∧ Aside0 (w'.heap[gb140]? = some (.cells #[.int .i64 x141000_1, .int .i64 x141001_1, .bool false] 33 (0, 0))) ∧ Aside0 (Below w.heap.size w w'))
 case atStart => exact ⟨(0), (0), (0), (0), (0), (by first | rfl | (simp; done) | (simp [*]; done)), H', ⟨Nat.le_refl _⟩, ⟨by (with_reducible repeat (first | refine kN ?_ _ | refine kD ?_ | refine kA ?_ _)); refine blk_far ?_ NB136_140.out _; (with_reducible repeat (first | refine kN ?_ _ | refine kD ?_ | refine kA ?_ _)); refine blk_far ?_ NB136_140.out _; (with_reducible repeat (first | refine kN ?_ _ | refine kD ?_ | refine kA ?_ _)); refine blk_far ?_ NB136_140.out _; (with_reducible repeat (first | refine kN ?_ _ | refine kD ?_ | refine kA ?_ _)); exact BK136.out⟩, ⟨by (with_reducible repeat (first | refine kN ?_ _ | refine kD ?_ | refine kA ?_ _)); refine blk_far ?_ NB137_140.out _; (with_reducible repeat (first | refine kN ?_ _ | refine kD ?_ | refine kA ?_ _)); refine blk_far ?_ NB137_140.out _; (with_reducible repeat (first | refine kN ?_ _ | refine kD ?_ | refine kA ?_ _)); refine blk_far ?_ NB137_140.out _; (with_reducible repeat (first | refine kN ?_ _ | refine kD ?_ | refine kA ?_ _)); exact BK137.out⟩, ⟨by (with_reducible repeat (first | refine kN ?_ _ | refine kD ?_ | refine kA ?_ _)); refine blk_far ?_ NB138_140.out _; (with_reducible repeat (first | refine kN ?_ _ | refine kD ?_ | refine kA ?_ _)); refine blk_far ?_ NB138_140.out _; (with_reducible repeat (first | refine kN ?_ _ | refine kD ?_ | refine kA ?_ _)); refine blk_far ?_ NB138_140.out _; (with_reducible repeat (first | refine kN ?_ _ | refine kD ?_ | refine kA ?_ _)); exact BK138.out⟩, ⟨by (with_reducible repeat (first | refine kN ?_ _ | refine kD ?_ | refine kA ?_ _)); refine blk_far ?_ NB139_140.out _; (with_reducible repeat (first | refine kN ?_ _ | refine kD ?_ | refine kA ?_ _)); refine blk_far ?_ NB139_140.out _; (with_reducible repeat (first | refine kN ?_ _ | refine kD ?_ | refine kA ?_ _)); refine blk_far ?_ NB139_140.out _; (with_reducible repeat (first | refine kN ?_ _ | refine kD ?_ | refine kA ?_ _)); exact BK139.out⟩, ⟨by (with_reducible repeat (first | refine kN ?_ _ | refine kD ?_ | refine kA ?_ _)); refine blk_put (cs := #[.int .i64 0, .int .i64 0, .bool false]) ?_ 2 _ rfl; (with_reducible repeat (first | refine kN ?_ _ | refine kD ?_ | refine kA ?_ _)); refine blk_put (cs := #[.int .i64 0, .int .i64 0, .bool false]) ?_ 1 _ rfl; (with_reducible repeat (first | refine kN ?_ _ | refine kD ?_ | refine kA ?_ _)); refine blk_put (cs := #[.int .i64 0, .int .i64 0, .bool false]) ?_ 0 _ rfl; (with_reducible repeat (first | refine kN ?_ _ | refine kD ?_ | refine kA ?_ _)); exact BK140.out⟩, ⟨by repeat (first | (with_reducible first | exact HB.out | apply bA | apply bN | apply bD | refine bS ?_ GE136.out | refine bS ?_ GE137.out | refine bS ?_ GE138.out | refine bS ?_ GE139.out | refine bS ?_ GE140.out) | exact HB.out)⟩⟩
 case round =>
  clear H'
  try clear c1
  try clear c2
  try clear p2
  try clear c6
  try clear c7
  try clear c8
  try clear c11
  try clear c12
  try clear c13
  try clear c14
  try clear hcz15_0
  try clear hcz15_1
  try clear hcz15_2
  try clear hcz9_0
  try clear hcz9_1
  try clear hcz9_2
  try clear hfz15_0
  try clear hfz15_1
  try clear hfz15_2
  try clear hfz9_0
  try clear hfz9_1
  try clear hfz9_2
  obtain ⟨x7_1, x140000_1, x140001_1, x141000_1, x141001_1, rfl, HA, HK1, BK136, BK137, BK138, BK139, BK140, HB⟩ := hrel
  cases gk with
  | zero => exact absurd HA.out (by simp [fleuronref03_Box.l0])
  | succ k1 =>
   have H := HA.out
   clear HA
   simp only [fleuronref03_Box.l0] at H
   by_cases c16 : x7_1 < (l0_0.length : Int)
   ·
    rw [if_pos c16] at H
    have c16b0 : decide (x7_1 < (l0_0.length : Int)) = true := decide_eq_true c16
    clear c16
    by_cases c17 : 0 ≤ x7_1
    ·
     rw [if_pos c17] at H
     have c17b0 : decide (0 ≤ x7_1) = true := decide_eq_true c17
     clear c17
     have HC18 := aM H
     clear H
     have hnb19 := NB136_137.out
     have hnc19 := NB137_136.out
     have hnb20 := NB136_138.out
     have hnc20 := NB138_136.out
     have hnb21 := NB136_139.out
     have hnc21 := NB139_136.out
     have hnb22 := NB136_140.out
     have hnc22 := NB140_136.out
     have hcz23_0 : wr.cell? ⟨gb136, 0, none⟩ = some (.slice A0_0 l0_0.length c0_0) := (blk_cell BK136.out 0).trans rfl
     have hcz23_1 : wr.cell? ⟨gb136, 1, none⟩ = some (.slice A0_1 l0_1.length c0_1) := (blk_cell BK136.out 1).trans rfl
     have hfz23_0 := blk_frozen BK136.out 0
     have hfz23_1 := blk_frozen BK136.out 1
     have p141 : 0 ≤ (x7_1 : Int) := dT (by assumption)
     have q141 : x7_1 < (l0_0.length : Int) := dT (by assumption)
     obtain ⟨ad141, e141, hx141_0, hx141_1, hx141_2⟩ := at_T33 HR0_0.out x7_1 p141 q141
     cases e141
     replace hx141_0 := (HB.out.cell (World.block_lt_of_cell? w _ hx141_0)).trans hx141_0
     replace hx141_1 := (HB.out.cell (World.block_lt_of_cell? w _ hx141_1)).trans hx141_1
     replace hx141_2 := (HB.out.cell (World.block_lt_of_cell? w _ hx141_2)).trans hx141_2
     replace p141 := eq_true p141
     replace q141 := eq_true q141
     go_upto_region 7 with (first | ((with_reducible refine gate_dst (N := 8) rfl ?_); refine box_event ?hg (N := 8) ?hd (cs := #[.int .i64 0, .int .i64 0, .bool false]) (t := 33) ?hr ?_; (case hd => rfl); (case hg => rfl); (case hr => first | (go_simp; done) | (go_simp; rfl)); intro gb142 hg w24 hbox hb; have n0_ := aM (blk_below (g := gb136) (o := .cells #[.slice (some ad141) l0_0.length c0_0, .slice A0_1 l0_1.length c0_1] 25 (0, 0)) (by (with_reducible repeat (first | refine kN ?_ _ | refine kD ?_ | refine kA ?_ _)); exact BK136.out) hb); have n1_ := aM (blk_below (g := gb137) (o := .cells #[.int .i64 0, .int .i64 0, .bool false] 33 (0, 0)) (by (with_reducible repeat (first | refine kN ?_ _ | refine kD ?_ | refine kA ?_ _)); exact BK137.out) hb); have n2_ := aM (blk_below (g := gb138) (o := .cells #[.int .i64 0, .int .i64 0, .bool false] 33 (0, 0)) (by (with_reducible repeat (first | refine kN ?_ _ | refine kD ?_ | refine kA ?_ _)); exact BK138.out) hb); have n3_ := aM (blk_below (g := gb139) (o := .cells #[.int .i64 x140000_1, .int .i64 x140001_1, .bool false] 33 (0, 0)) (by (with_reducible repeat (first | refine kN ?_ _ | refine kD ?_ | refine kA ?_ _)); exact BK139.out) hb); have n4_ := aM (blk_below (g := gb140) (o := .cells #[.int .i64 x141000_1, .int .i64 x141001_1, .bool false] 33 (0, 0)) (by (with_reducible repeat (first | refine kN ?_ _ | refine kD ?_ | refine kA ?_ _)); exact BK140.out) hb); have n5_ := aM (below_step (by repeat (first | (with_reducible first | exact HB.out | apply bA | apply bN | apply bD | refine bS ?_ GE136.out | refine bS ?_ GE137.out | refine bS ?_ GE138.out | refine bS ?_ GE139.out | refine bS ?_ GE140.out) | exact HB.out)) hb); have n6_ := aM (hbox); have n7_ := aM ((by rw [hg]; exact (below_size (by repeat (first | (with_reducible first | exact HB.out | apply bA | apply bN | apply bD | refine bS ?_ GE136.out | refine bS ?_ GE137.out | refine bS ?_ GE138.out | refine bS ?_ GE139.out | refine bS ?_ GE140.out) | exact HB.out))) : w.heap.size ≤ gb142)); have n8_ := aM ((by rw [hg]; exact (below_size (by repeat (first | (with_reducible first | exact HB.out | apply bA | apply bN | apply bD | refine bS ?_ GE136.out | refine bS ?_ GE137.out | refine bS ?_ GE138.out | refine bS ?_ GE139.out | refine bS ?_ GE140.out) | exact HB.out))) : w.heap.size ≤ gb142)); have n9_ := aM ((by rw [hg]; exact Nat.ne_of_lt (blk_lt (g := gb136) (o := .cells #[.slice (some ad141) l0_0.length c0_0, .slice A0_1 l0_1.length c0_1] 25 (0, 0)) (by (with_reducible repeat (first | refine kN ?_ _ | refine kD ?_ | refine kA ?_ _)); exact BK136.out)) : gb136 ≠ gb142)); have n10_ := aM ((by rw [hg]; exact Nat.ne_of_gt (blk_lt (g := gb136) (o := .cells #[.slice (some ad141) l0_0.length c0_0, .slice A0_1 l0_1.length c0_1] 25 (0, 0)) (by (with_reducible repeat (first | refine kN ?_ _ | refine kD ?_ | refine kA ?_ _)); exact BK136.out)) : gb142 ≠ gb136)); have n11_ := aM ((by rw [hg]; exact Nat.ne_of_lt (blk_lt (g := gb137) (o := .cells #[.int .i64 0, .int .i64 0, .bool false] 33 (0, 0)) (by (with_reducible repeat (first | refine kN ?_ _ | refine kD ?_ | refine kA ?_ _)); exact BK137.out)) : gb137 ≠ gb142)); have n12_ := aM ((by rw [hg]; exact Nat.ne_of_gt (blk_lt (g := gb137) (o := .cells #[.int .i64 0, .int .i64 0, .bool false] 33 (0, 0)) (by (with_reducible repeat (first | refine kN ?_ _ | refine kD ?_ | refine kA ?_ _)); exact BK137.out)) : gb142 ≠ gb137)); have n13_ := aM ((by rw [hg]; exact Nat.ne_of_lt (blk_lt (g := gb138) (o := .cells #[.int .i64 0, .int .i64 0, .bool false] 33 (0, 0)) (by (with_reducible repeat (first | refine kN ?_ _ | refine kD ?_ | refine kA ?_ _)); exact BK138.out)) : gb138 ≠ gb142)); have n14_ := aM ((by rw [hg]; exact Nat.ne_of_gt (blk_lt (g := gb138) (o := .cells #[.int .i64 0, .int .i64 0, .bool false] 33 (0, 0)) (by (with_reducible repeat (first | refine kN ?_ _ | refine kD ?_ | refine kA ?_ _)); exact BK138.out)) : gb142 ≠ gb138)); have n15_ := aM ((by rw [hg]; exact Nat.ne_of_lt (blk_lt (g := gb139) (o := .cells #[.int .i64 x140000_1, .int .i64 x140001_1, .bool false] 33 (0, 0)) (by (with_reducible repeat (first | refine kN ?_ _ | refine kD ?_ | refine kA ?_ _)); exact BK139.out)) : gb139 ≠ gb142)); have n16_ := aM ((by rw [hg]; exact Nat.ne_of_gt (blk_lt (g := gb139) (o := .cells #[.int .i64 x140000_1, .int .i64 x140001_1, .bool false] 33 (0, 0)) (by (with_reducible repeat (first | refine kN ?_ _ | refine kD ?_ | refine kA ?_ _)); exact BK139.out)) : gb142 ≠ gb139)); have n17_ := aM ((by rw [hg]; exact Nat.ne_of_lt (blk_lt (g := gb140) (o := .cells #[.int .i64 x141000_1, .int .i64 x141001_1, .bool false] 33 (0, 0)) (by (with_reducible repeat (first | refine kN ?_ _ | refine kD ?_ | refine kA ?_ _)); exact BK140.out)) : gb140 ≠ gb142)); have n18_ := aM ((by rw [hg]; exact Nat.ne_of_gt (blk_lt (g := gb140) (o := .cells #[.int .i64 x141000_1, .int .i64 x141001_1, .bool false] 33 (0, 0)) (by (with_reducible repeat (first | refine kN ?_ _ | refine kD ?_ | refine kA ?_ _)); exact BK140.out)) : gb142 ≠ gb140)); clear BK136; clear BK137; clear BK138; clear BK139; clear BK140; clear HB; have BK136 := n0_; have BK137 := n1_; have BK138 := n2_; have BK139 := n3_; have BK140 := n4_; have HB := n5_; have BK142 := n6_; have GW142 := n7_; have GE142 := n8_; have NB136_142 := n9_; have NB142_136 := n10_; have NB137_142 := n11_; have NB142_137 := n12_; have NB138_142 := n13_; have NB142_138 := n14_; have NB139_142 := n15_; have NB142_139 := n16_; have NB140_142 := n17_; have NB142_140 := n18_; clear n0_ n1_ n2_ n3_ n4_ n5_ n6_ n7_ n8_ n9_ n10_ n11_ n12_ n13_ n14_ n15_ n16_ n17_ n18_; clear hb hbox hg; have hnb25 := NB142_136.out; have hnc25 := NB136_142.out; have hnb26 := NB142_137.out; have hnc26 := NB137_142.out; have hnb27 := NB142_138.out; have hnc27 := NB138_142.out; have hnb28 := NB142_139.out; have hnc28 := NB139_142.out; have hnb29 := NB142_140.out; have hnc29 := NB140_142.out; have hcz30_0 : w24.cell? ⟨gb142, 0, none⟩ = some (.int .i64 0) := (blk_cell BK142.out 0).trans rfl; have hcz30_1 : w24.cell? ⟨gb142, 1, none⟩ = some (.int .i64 0) := (blk_cell BK142.out 1).trans rfl; have hcz30_2 : w24.cell? ⟨gb142, 2, none⟩ = some (.bool false) := (blk_cell BK142.out 2).trans rfl; have hfz30_0 := blk_frozen BK142.out 0; have hfz30_1 := blk_frozen BK142.out 1; have hfz30_2 := blk_frozen BK142.out 2))
     (try simp only [Act.put, List.setIfInBounds_toArray, List.set_cons_zero, List.set_cons_succ])
     go_cut [31] (fun v31 wc => ∃ (kq : Nat) (x31_17 : Bool), v31 = .bool x31_17 ∧ Aside0 (fleuronref03_Box.j1 kq x7_1 x31_17 l0_0 l0_1 x140000_1 x140001_1 false x141000_1 x141001_1 false ((rd_T33 l0_0 x7_1).f0) ((rd_T33 l0_0 x7_1).f1) ((rd_T33 l0_0 x7_1).f2) = some (r1, r2, r3, r4, r5, r6, r7)) ∧ Aside0 (kq ≤ k1) ∧ Aside0 (wc.heap[gb136]? = some (.cells #[(.slice (some ad141) l0_0.length c0_0), (.slice A0_1 l0_1.length c0_1)] 25 (0, 0))) ∧ Aside0 (wc.heap[gb137]? = some (.cells #[.int .i64 0, .int .i64 0, .bool false] 33 (0, 0))) ∧ Aside0 (wc.heap[gb138]? = some (.cells #[.int .i64 0, .int .i64 0, .bool false] 33 (0, 0))) ∧ Aside0 (wc.heap[gb139]? = some (.cells #[.int .i64 x140000_1, .int .i64 x140001_1, .bool false] 33 (0, 0))) ∧ Aside0 (wc.heap[gb140]? = some (.cells #[.int .i64 x141000_1, .int .i64 x141001_1, .bool false] 33 (0, 0))) ∧ Aside0 (wc.heap[gb142]? = some (.cells #[.int .i64 ((rd_T33 l0_0 x7_1).f0), .int .i64 ((rd_T33 l0_0 x7_1).f1), .bool ((rd_T33 l0_0 x7_1).f2)] 33 (0, 0))) ∧ Aside0 (Below w.heap.size w wc))
     case first =>
      have H := HC18.out
      clear HC18
      by_cases c31 : x7_1 = 0
      ·
       rw [if_pos c31] at H
       have c31b0 : (x7_1 == 0) = true := beq_iff_eq.mpr c31
       have c31b1 : (x7_1 != 0) = false := bne_eq_false_iff_eq.mpr c31
       clear c31
       (first | rw [c31b0] | (simp only [i64_w, i32_w]; rw [c31b0]) | skip)
       have H' := aM H
       clear H
       go_wp2
       go_meet
       case rel => exact ⟨_, (true), (by first | rfl | (simp; done) | (simp [*]; done)), H', ⟨by have := HK1.out; first | omega | exact Nat.le_refl _⟩, ⟨by (with_reducible repeat (first | refine kN ?_ _ | refine kD ?_ | refine kA ?_ _)); refine blk_far ?_ NB136_142.out _; (with_reducible repeat (first | refine kN ?_ _ | refine kD ?_ | refine kA ?_ _)); refine blk_far ?_ NB136_142.out _; (with_reducible repeat (first | refine kN ?_ _ | refine kD ?_ | refine kA ?_ _)); refine blk_far ?_ NB136_142.out _; (with_reducible repeat (first | refine kN ?_ _ | refine kD ?_ | refine kA ?_ _)); exact BK136.out⟩, ⟨by (with_reducible repeat (first | refine kN ?_ _ | refine kD ?_ | refine kA ?_ _)); refine blk_far ?_ NB137_142.out _; (with_reducible repeat (first | refine kN ?_ _ | refine kD ?_ | refine kA ?_ _)); refine blk_far ?_ NB137_142.out _; (with_reducible repeat (first | refine kN ?_ _ | refine kD ?_ | refine kA ?_ _)); refine blk_far ?_ NB137_142.out _; (with_reducible repeat (first | refine kN ?_ _ | refine kD ?_ | refine kA ?_ _)); exact BK137.out⟩, ⟨by (with_reducible repeat (first | refine kN ?_ _ | refine kD ?_ | refine kA ?_ _)); refine blk_far ?_ NB138_142.out _; (with_reducible repeat (first | refine kN ?_ _ | refine kD ?_ | refine kA ?_ _)); refine blk_far ?_ NB138_142.out _; (with_reducible repeat (first | refine kN ?_ _ | refine kD ?_ | refine kA ?_ _)); refine blk_far ?_ NB138_142.out _; (with_reducible repeat (first | refine kN ?_ _ | refine kD ?_ | refine kA ?_ _)); exact BK138.out⟩, ⟨by (with_reducible repeat (first | refine kN ?_ _ | refine kD ?_ | refine kA ?_ _)); refine blk_far ?_ NB139_142.out _; (with_reducible repeat (first | refine kN ?_ _ | refine kD ?_ | refine kA ?_ _)); refine blk_far ?_ NB139_142.out _; (with_reducible repeat (first | refine kN ?_ _ | refine kD ?_ | refine kA ?_ _)); refine blk_far ?_ NB139_142.out _; (with_reducible repeat (first | refine kN ?_ _ | refine kD ?_ | refine kA ?_ _)); exact BK139.out⟩, ⟨by (with_reducible repeat (first | refine kN ?_ _ | refine kD ?_ | refine kA ?_ _)); refine blk_far ?_ NB140_142.out _; (with_reducible repeat (first | refine kN ?_ _ | refine kD ?_ | refine kA ?_ _)); refine blk_far ?_ NB140_142.out _; (with_reducible repeat (first | refine kN ?_ _ | refine kD ?_ | refine kA ?_ _)); refine blk_far ?_ NB140_142.out _; (with_reducible repeat (first | refine kN ?_ _ | refine kD ?_ | refine kA ?_ _)); exact BK140.out⟩, ⟨by (with_reducible repeat (first | refine kN ?_ _ | refine kD ?_ | refine kA ?_ _)); refine blk_put (cs := #[.int .i64 ((rd_T33 l0_0 x7_1).f0), .int .i64 ((rd_T33 l0_0 x7_1).f1), .bool false]) ?_ 2 _ rfl; (with_reducible repeat (first | refine kN ?_ _ | refine kD ?_ | refine kA ?_ _)); refine blk_put (cs := #[.int .i64 ((rd_T33 l0_0 x7_1).f0), .int .i64 0, .bool false]) ?_ 1 _ rfl; (with_reducible repeat (first | refine kN ?_ _ | refine kD ?_ | refine kA ?_ _)); refine blk_put (cs := #[.int .i64 0, .int .i64 0, .bool false]) ?_ 0 _ rfl; (with_reducible repeat (first | refine kN ?_ _ | refine kD ?_ | refine kA ?_ _)); exact BK142.out⟩, ⟨by repeat (first | (with_reducible first | exact HB.out | apply bA | apply bN | apply bD | refine bS ?_ GE136.out | refine bS ?_ GE137.out | refine bS ?_ GE138.out | refine bS ?_ GE139.out | refine bS ?_ GE140.out | refine bS ?_ GE142.out) | exact HB.out)⟩⟩
      ·
       rw [if_neg c31] at H
       have c31b0 : (x7_1 == 0) = false := beq_eq_false_iff_ne.mpr c31
       have c31b1 : (x7_1 != 0) = true := bne_iff_ne.mpr c31
       (first | rw [c31b0] | (simp only [i64_w, i32_w]; rw [c31b0]) | skip)
       have H' := aM H
       clear H
       have hnb32 := NB142_136.out
       have hnc32 := NB136_142.out
       have hnb33 := NB142_137.out
       have hnc33 := NB137_142.out
       have hnb34 := NB142_138.out
       have hnc34 := NB138_142.out
       have hnb35 := NB142_139.out
       have hnc35 := NB139_142.out
       have hnb36 := NB142_140.out
       have hnc36 := NB140_142.out
       have hcz37_0 : w24.cell? ⟨gb142, 0, none⟩ = some (.int .i64 0) := (blk_cell BK142.out 0).trans rfl
       have hcz37_1 : w24.cell? ⟨gb142, 1, none⟩ = some (.int .i64 0) := (blk_cell BK142.out 1).trans rfl
       have hcz37_2 : w24.cell? ⟨gb142, 2, none⟩ = some (.bool false) := (blk_cell BK142.out 2).trans rfl
       have hfz37_0 := blk_frozen BK142.out 0
       have hfz37_1 := blk_frozen BK142.out 1
       have hfz37_2 := blk_frozen BK142.out 2
       have hnb38 := NB139_136.out
       have hnc38 := NB136_139.out
       have hnb39 := NB139_137.out
       have hnc39 := NB137_139.out
       have hnb40 := NB139_138.out
       have hnc40 := NB138_139.out
       have hnb41 := NB139_140.out
       have hnc41 := NB140_139.out
       have hcz42_0 : w24.cell? ⟨gb139, 0, none⟩ = some (.int .i64 x140000_1) := (blk_cell BK139.out 0).trans rfl
       have hcz42_1 : w24.cell? ⟨gb139, 1, none⟩ = some (.int .i64 x140001_1) := (blk_cell BK139.out 1).trans rfl
       have hcz42_2 : w24.cell? ⟨gb139, 2, none⟩ = some (.bool false) := (blk_cell BK139.out 2).trans rfl
       have hfz42_0 := blk_frozen BK139.out 0
       have hfz42_1 := blk_frozen BK139.out 1
       have hfz42_2 := blk_frozen BK139.out 2
       go_wp2
       go_meet
       case rel => exact ⟨_, (decide (((rd_T33 l0_0 x7_1).f0) < x140000_1)), (by first | rfl | (simp; done) | (simp [*]; done)), H', ⟨by have := HK1.out; first | omega | exact Nat.le_refl _⟩, ⟨by (with_reducible repeat (first | refine kN ?_ _ | refine kD ?_ | refine kA ?_ _)); refine blk_far ?_ NB136_142.out _; (with_reducible repeat (first | refine kN ?_ _ | refine kD ?_ | refine kA ?_ _)); refine blk_far ?_ NB136_142.out _; (with_reducible repeat (first | refine kN ?_ _ | refine kD ?_ | refine kA ?_ _)); refine blk_far ?_ NB136_142.out _; (with_reducible repeat (first | refine kN ?_ _ | refine kD ?_ | refine kA ?_ _)); exact BK136.out⟩, ⟨by (with_reducible repeat (first | refine kN ?_ _ | refine kD ?_ | refine kA ?_ _)); refine blk_far ?_ NB137_142.out _; (with_reducible repeat (first | refine kN ?_ _ | refine kD ?_ | refine kA ?_ _)); refine blk_far ?_ NB137_142.out _; (with_reducible repeat (first | refine kN ?_ _ | refine kD ?_ | refine kA ?_ _)); refine blk_far ?_ NB137_142.out _; (with_reducible repeat (first | refine kN ?_ _ | refine kD ?_ | refine kA ?_ _)); exact BK137.out⟩, ⟨by (with_reducible repeat (first | refine kN ?_ _ | refine kD ?_ | refine kA ?_ _)); refine blk_far ?_ NB138_142.out _; (with_reducible repeat (first | refine kN ?_ _ | refine kD ?_ | refine kA ?_ _)); refine blk_far ?_ NB138_142.out _; (with_reducible repeat (first | refine kN ?_ _ | refine kD ?_ | refine kA ?_ _)); refine blk_far ?_ NB138_142.out _; (with_reducible repeat (first | refine kN ?_ _ | refine kD ?_ | refine kA ?_ _)); exact BK138.out⟩, ⟨by (with_reducible repeat (first | refine kN ?_ _ | refine kD ?_ | refine kA ?_ _)); refine blk_far ?_ NB139_142.out _; (with_reducible repeat (first | refine kN ?_ _ | refine kD ?_ | refine kA ?_ _)); refine blk_far ?_ NB139_142.out _; (with_reducible repeat (first | refine kN ?_ _ | refine kD ?_ | refine kA ?_ _)); refine blk_far ?_ NB139_142.out _; (with_reducible repeat (first | refine kN ?_ _ | refine kD ?_ | refine kA ?_ _)); exact BK139.out⟩, ⟨by (with_reducible repeat (first | refine kN ?_ _ | refine kD ?_ | refine kA ?_ _)); refine blk_far ?_ NB140_142.out _; (with_reducible repeat (first | refine kN ?_ _ | refine kD ?_ | refine kA ?_ _)); refine blk_far ?_ NB140_142.out _; (with_reducible repeat (first | refine kN ?_ _ | refine kD ?_ | refine kA ?_ _)); refine blk_far ?_ NB140_142.out _; (with_reducible repeat (first | refine kN ?_ _ | refine kD ?_ | refine kA ?_ _)); exact BK140.out⟩, ⟨by (with_reducible repeat (first | refine kN ?_ _ | refine kD ?_ | refine kA ?_ _)); refine blk_put (cs := #[.int .i64 ((rd_T33 l0_0 x7_1).f0), .int .i64 ((rd_T33 l0_0 x7_1).f1), .bool false]) ?_ 2 _ rfl; (with_reducible repeat (first | refine kN ?_ _ | refine kD ?_ | refine kA ?_ _)); refine blk_put (cs := #[.int .i64 ((rd_T33 l0_0 x7_1).f0), .int .i64 0, .bool false]) ?_ 1 _ rfl; (with_reducible repeat (first | refine kN ?_ _ | refine kD ?_ | refine kA ?_ _)); refine blk_put (cs := #[.int .i64 0, .int .i64 0, .bool false]) ?_ 0 _ rfl; (with_reducible repeat (first | refine kN ?_ _ | refine kD ?_ | refine kA ?_ _)); exact BK142.out⟩, ⟨by repeat (first | (with_reducible first | exact HB.out | apply bA | apply bN | apply bD | refine bS ?_ GE136.out | refine bS ?_ GE137.out | refine bS ?_ GE138.out | refine bS ?_ GE139.out | refine bS ?_ GE140.out | refine bS ?_ GE142.out) | exact HB.out)⟩⟩
     case rest =>
      clear HC18
      try clear c1
      try clear p1
      try clear q1
      try clear hx1
      try clear c2
      try clear p2
      try clear c3
      try clear c4
      try clear c6
      try clear c7
      try clear c8
      try clear c11
      try clear c12
      try clear c13
      try clear c14
      try clear p14
      try clear q14
      try clear hx14
      try clear c16
      try clear c16b0
      try clear c17
      try clear c17b0
      try clear c19
      try clear c20
      try clear c21
      try clear c22
      try clear c25
      try clear c26
      try clear c27
      try clear c28
      try clear c29
      try clear c31
      try clear c31b0
      try clear c31b1
      try clear c32
      try clear c33
      try clear c34
      try clear c35
      try clear c36
      try clear c38
      try clear c39
      try clear c40
      try clear c41
      try clear hcz15_0
      try clear hcz15_1
      try clear hcz15_2
      try clear hcz23_0
      try clear hcz23_1
      try clear hcz30_0
      try clear hcz30_1
      try clear hcz30_2
      try clear hcz37_0
      try clear hcz37_1
      try clear hcz37_2
      try clear hcz42_0
      try clear hcz42_1
      try clear hcz42_2
      try clear hcz9_0
      try clear hcz9_1
      try clear hcz9_2
      try clear hfz15_0
      try clear hfz15_1
      try clear hfz15_2
      try clear hfz23_0
      try clear hfz23_1
      try clear hfz30_0
      try clear hfz30_1
      try clear hfz30_2
      try clear hfz37_0
      try clear hfz37_1
      try clear hfz37_2
      try clear hfz42_0
      try clear hfz42_1
      try clear hfz42_2
      try clear hfz9_0
      try clear hfz9_1
      try clear hfz9_2
      try clear hx141_0
      try clear hx141_1
      try clear hx141_2
      try clear p141
      try clear p2
      try clear q141
      obtain ⟨kq, x31_17, rfl, HA, HJ17, BK136, BK137, BK138, BK139, BK140, BK142, HB⟩ := hcut
      cases kq with
      | zero => exact absurd HA.out (by simp [fleuronref03_Box.j1])
      | succ kj17 =>
       have H := HA.out
       clear HA
       simp only [fleuronref03_Box.j1] at H
       have HC43 := aM H
       clear H
       go_upto_if 31 with (fail)
       go_cut [] (fun wc => ∃ (kq : Nat) (x140000_42 : Int), Aside0 (fleuronref03_Box.j2 kq x7_1 l0_0 l0_1 x140000_42 x140001_1 false x141000_1 x141001_1 false ((rd_T33 l0_0 x7_1).f0) ((rd_T33 l0_0 x7_1).f1) ((rd_T33 l0_0 x7_1).f2) = some (r1, r2, r3, r4, r5, r6, r7)) ∧ Aside0 (kq ≤ kj17) ∧ Aside0 (wc.heap[gb136]? = some (.cells #[(.slice (some ad141) l0_0.length c0_0), (.slice A0_1 l0_1.length c0_1)] 25 (0, 0))) ∧ Aside0 (wc.heap[gb137]? = some (.cells #[.int .i64 0, .int .i64 0, .bool false] 33 (0, 0))) ∧ Aside0 (wc.heap[gb138]? = some (.cells #[.int .i64 0, .int .i64 0, .bool false] 33 (0, 0))) ∧ Aside0 (wc.heap[gb139]? = some (.cells #[.int .i64 x140000_42, .int .i64 x140001_1, .bool false] 33 (0, 0))) ∧ Aside0 (wc.heap[gb140]? = some (.cells #[.int .i64 x141000_1, .int .i64 x141001_1, .bool false] 33 (0, 0))) ∧ Aside0 (wc.heap[gb142]? = some (.cells #[.int .i64 ((rd_T33 l0_0 x7_1).f0), .int .i64 ((rd_T33 l0_0 x7_1).f1), .bool ((rd_T33 l0_0 x7_1).f2)] 33 (0, 0))) ∧ Aside0 (Below w.heap.size w wc))
       case first =>
        have H := HC43.out
        clear HC43
        by_cases c44 : x31_17 = true
        ·
         subst c44
         have H1 : (fleuronref03_Box.j2 kj17 x7_1 l0_0 l0_1 ((rd_T33 l0_0 x7_1).f0) x140001_1 false x141000_1 x141001_1 false ((rd_T33 l0_0 x7_1).f0) ((rd_T33 l0_0 x7_1).f1) ((rd_T33 l0_0 x7_1).f2)) = some (r1, r2, r3, r4, r5, r6, r7) := by rw [if_pos rfl] at H; exact H
         clear H
         have H := H1
         clear H1
         have H' := aM H
         clear H
         have hnb45 := NB142_136.out
         have hnc45 := NB136_142.out
         have hnb46 := NB142_137.out
         have hnc46 := NB137_142.out
         have hnb47 := NB142_138.out
         have hnc47 := NB138_142.out
         have hnb48 := NB142_139.out
         have hnc48 := NB139_142.out
         have hnb49 := NB142_140.out
         have hnc49 := NB140_142.out
         have hcz50_0 : wc.cell? ⟨gb142, 0, none⟩ = some (.int .i64 ((rd_T33 l0_0 x7_1).f0)) := (blk_cell BK142.out 0).trans rfl
         have hcz50_1 : wc.cell? ⟨gb142, 1, none⟩ = some (.int .i64 ((rd_T33 l0_0 x7_1).f1)) := (blk_cell BK142.out 1).trans rfl
         have hcz50_2 : wc.cell? ⟨gb142, 2, none⟩ = some (.bool ((rd_T33 l0_0 x7_1).f2)) := (blk_cell BK142.out 2).trans rfl
         have hfz50_0 := blk_frozen BK142.out 0
         have hfz50_1 := blk_frozen BK142.out 1
         have hfz50_2 := blk_frozen BK142.out 2
         have hnb51 := NB139_136.out
         have hnc51 := NB136_139.out
         have hnb52 := NB139_137.out
         have hnc52 := NB137_139.out
         have hnb53 := NB139_138.out
         have hnc53 := NB138_139.out
         have hnb54 := NB139_140.out
         have hnc54 := NB140_139.out
         have hcz55_0 : wc.cell? ⟨gb139, 0, none⟩ = some (.int .i64 x140000_1) := (blk_cell BK139.out 0).trans rfl
         have hcz55_1 : wc.cell? ⟨gb139, 1, none⟩ = some (.int .i64 x140001_1) := (blk_cell BK139.out 1).trans rfl
         have hcz55_2 : wc.cell? ⟨gb139, 2, none⟩ = some (.bool false) := (blk_cell BK139.out 2).trans rfl
         have hfz55_0 := blk_frozen BK139.out 0
         have hfz55_1 := blk_frozen BK139.out 1
         have hfz55_2 := blk_frozen BK139.out 2
         go_wp2
         go_meet
         case rel => exact ⟨_, (((rd_T33 l0_0 x7_1).f0)), H', ⟨by have := HK1.out; have := HJ17.out; first | omega | exact Nat.le_refl _⟩, ⟨by (with_reducible repeat (first | refine kN ?_ _ | refine kD ?_ | refine kA ?_ _)); refine blk_far ?_ NB136_139.out _; (with_reducible repeat (first | refine kN ?_ _ | refine kD ?_ | refine kA ?_ _)); exact BK136.out⟩, ⟨by (with_reducible repeat (first | refine kN ?_ _ | refine kD ?_ | refine kA ?_ _)); refine blk_far ?_ NB137_139.out _; (with_reducible repeat (first | refine kN ?_ _ | refine kD ?_ | refine kA ?_ _)); exact BK137.out⟩, ⟨by (with_reducible repeat (first | refine kN ?_ _ | refine kD ?_ | refine kA ?_ _)); refine blk_far ?_ NB138_139.out _; (with_reducible repeat (first | refine kN ?_ _ | refine kD ?_ | refine kA ?_ _)); exact BK138.out⟩, ⟨by (with_reducible repeat (first | refine kN ?_ _ | refine kD ?_ | refine kA ?_ _)); refine blk_put (cs := #[.int .i64 x140000_1, .int .i64 x140001_1, .bool false]) ?_ 0 _ rfl; (with_reducible repeat (first | refine kN ?_ _ | refine kD ?_ | refine kA ?_ _)); exact BK139.out⟩, ⟨by (with_reducible repeat (first | refine kN ?_ _ | refine kD ?_ | refine kA ?_ _)); refine blk_far ?_ NB140_139.out _; (with_reducible repeat (first | refine kN ?_ _ | refine kD ?_ | refine kA ?_ _)); exact BK140.out⟩, ⟨by (with_reducible repeat (first | refine kN ?_ _ | refine kD ?_ | refine kA ?_ _)); refine blk_far ?_ NB142_139.out _; (with_reducible repeat (first | refine kN ?_ _ | refine kD ?_ | refine kA ?_ _)); exact BK142.out⟩, ⟨by repeat (first | (with_reducible first | exact HB.out | apply bA | apply bN | apply bD | refine bS ?_ GE136.out | refine bS ?_ GE137.out | refine bS ?_ GE138.out | refine bS ?_ GE139.out | refine bS ?_ GE140.out | refine bS ?_ GE142.out) | exact HB.out)⟩⟩
        ·
         replace c44 := Bool.eq_false_iff.mpr c44
         subst c44
         have H1 : (fleuronref03_Box.j2 kj17 x7_1 l0_0 l0_1 x140000_1 x140001_1 false x141000_1 x141001_1 false ((rd_T33 l0_0 x7_1).f0) ((rd_T33 l0_0 x7_1).f1) ((rd_T33 l0_0 x7_1).f2)) = some (r1, r2, r3, r4, r5, r6, r7) := by rw [if_neg (show ¬ (false = true) by decide)] at H; exact H
         clear H
         have H := H1
         clear H1
         have H' := aM H
         clear H
         go_wp2
         go_meet
         case rel => exact ⟨_, (x140000_1), H', ⟨by have := HK1.out; have := HJ17.out; first | omega | exact Nat.le_refl _⟩, ⟨by (with_reducible repeat (first | refine kN ?_ _ | refine kD ?_ | refine kA ?_ _)); exact BK136.out⟩, ⟨by (with_reducible repeat (first | refine kN ?_ _ | refine kD ?_ | refine kA ?_ _)); exact BK137.out⟩, ⟨by (with_reducible repeat (first | refine kN ?_ _ | refine kD ?_ | refine kA ?_ _)); exact BK138.out⟩, ⟨by (with_reducible repeat (first | refine kN ?_ _ | refine kD ?_ | refine kA ?_ _)); exact BK139.out⟩, ⟨by (with_reducible repeat (first | refine kN ?_ _ | refine kD ?_ | refine kA ?_ _)); exact BK140.out⟩, ⟨by (with_reducible repeat (first | refine kN ?_ _ | refine kD ?_ | refine kA ?_ _)); exact BK142.out⟩, ⟨by repeat (first | (with_reducible first | exact HB.out | apply bA | apply bN | apply bD | refine bS ?_ GE136.out | refine bS ?_ GE137.out | refine bS ?_ GE138.out | refine bS ?_ GE139.out | refine bS ?_ GE140.out | refine bS ?_ GE142.out) | exact HB.out)⟩⟩
       case rest =>
        clear HC43
        try clear c1
        try clear p1
        try clear q1
        try clear hx1
        try clear c2
        try clear p2
        try clear c3
        try clear c4
        try clear c5
        try clear c6
        try clear c7
        try clear c8
        try clear c11
        try clear c12
        try clear c13
        try clear c14
        try clear p14
        try clear q14
        try clear hx14
        try clear c16
        try clear c16b0
        try clear c17
        try clear c17b0
        try clear c19
        try clear c20
        try clear c21
        try clear c22
        try clear c25
        try clear c26
        try clear c27
        try clear c28
        try clear c29
        try clear c31
        try clear c31b0
        try clear c31b1
        try clear c32
        try clear c33
        try clear c34
        try clear c35
        try clear c36
        try clear c38
        try clear c39
        try clear c40
        try clear c41
        try clear c44
        try clear c45
        try clear c46
        try clear c47
        try clear c48
        try clear c49
        try clear c51
        try clear c52
        try clear c53
        try clear c54
        try clear hcz15_0
        try clear hcz15_1
        try clear hcz15_2
        try clear hcz23_0
        try clear hcz23_1
        try clear hcz30_0
        try clear hcz30_1
        try clear hcz30_2
        try clear hcz37_0
        try clear hcz37_1
        try clear hcz37_2
        try clear hcz42_0
        try clear hcz42_1
        try clear hcz42_2
        try clear hcz50_0
        try clear hcz50_1
        try clear hcz50_2
        try clear hcz55_0
        try clear hcz55_1
        try clear hcz55_2
        try clear hcz9_0
        try clear hcz9_1
        try clear hcz9_2
        try clear hfz15_0
        try clear hfz15_1
        try clear hfz15_2
        try clear hfz23_0
        try clear hfz23_1
        try clear hfz30_0
        try clear hfz30_1
        try clear hfz30_2
        try clear hfz37_0
        try clear hfz37_1
        try clear hfz37_2
        try clear hfz42_0
        try clear hfz42_1
        try clear hfz42_2
        try clear hfz50_0
        try clear hfz50_1
        try clear hfz50_2
        try clear hfz55_0
        try clear hfz55_1
        try clear hfz55_2
        try clear hfz9_0
        try clear hfz9_1
        try clear hfz9_2
        try clear hx141_0
        try clear hx141_1
        try clear hx141_2
        try clear p1
        try clear p14
        try clear p141
        try clear p2
        try clear q1
        try clear q14
        try clear q141
        obtain ⟨kq, x140000_42, HA, HJ42, BK136, BK137, BK138, BK139, BK140, BK142, HB⟩ := hcut
        cases kq with
        | zero => exact absurd HA.out (by simp [fleuronref03_Box.j2])
        | succ kj42 =>
         have H := HA.out
         clear HA
         simp only [fleuronref03_Box.j2] at H
         have HC56 := aM H
         clear H
         go_upto_region 9 with (fail)
         go_cut [43] (fun v43 wc => ∃ (kq : Nat) (x43_55 : Bool), v43 = .bool x43_55 ∧ Aside0 (fleuronref03_Box.j3 kq x7_1 x43_55 l0_0 l0_1 x140000_42 x140001_1 false x141000_1 x141001_1 false ((rd_T33 l0_0 x7_1).f0) ((rd_T33 l0_0 x7_1).f1) ((rd_T33 l0_0 x7_1).f2) = some (r1, r2, r3, r4, r5, r6, r7)) ∧ Aside0 (kq ≤ kj42) ∧ Aside0 (wc.heap[gb136]? = some (.cells #[(.slice (some ad141) l0_0.length c0_0), (.slice A0_1 l0_1.length c0_1)] 25 (0, 0))) ∧ Aside0 (wc.heap[gb137]? = some (.cells #[.int .i64 0, .int .i64 0, .bool false] 33 (0, 0))) ∧ Aside0 (wc.heap[gb138]? = some (.cells #[.int .i64 0, .int .i64 0, .bool false] 33 (0, 0))) ∧ Aside0 (wc.heap[gb139]? = some (.cells #[.int .i64 x140000_42, .int .i64 x140001_1, .bool false] 33 (0, 0))) ∧ Aside0 (wc.heap[gb140]? = some (.cells #[.int .i64 x141000_1, .int .i64 x141001_1, .bool false] 33 (0, 0))) ∧ Aside0 (wc.heap[gb142]? = some (.cells #[.int .i64 ((rd_T33 l0_0 x7_1).f0), .int .i64 ((rd_T33 l0_0 x7_1).f1), .bool ((rd_T33 l0_0 x7_1).f2)] 33 (0, 0))) ∧ Aside0 (Below w.heap.size w wc))
         case first =>
          have H := HC56.out
          clear HC56
          by_cases c57 : x7_1 = 0
          ·
           rw [if_pos c57] at H
           have c57b0 : (x7_1 == 0) = true := beq_iff_eq.mpr c57
           have c57b1 : (x7_1 != 0) = false := bne_eq_false_iff_eq.mpr c57
           clear c57
           (first | rw [c57b0] | (simp only [i64_w, i32_w]; rw [c57b0]) | skip)
           have H' := aM H
           clear H
           go_wp2
           go_meet
           case rel => exact ⟨_, (true), (by first | rfl | (simp; done) | (simp [*]; done)), H', ⟨by have := HK1.out; have := HJ17.out; have := HJ42.out; first | omega | exact Nat.le_refl _⟩, ⟨by (with_reducible repeat (first | refine kN ?_ _ | refine kD ?_ | refine kA ?_ _)); exact BK136.out⟩, ⟨by (with_reducible repeat (first | refine kN ?_ _ | refine kD ?_ | refine kA ?_ _)); exact BK137.out⟩, ⟨by (with_reducible repeat (first | refine kN ?_ _ | refine kD ?_ | refine kA ?_ _)); exact BK138.out⟩, ⟨by (with_reducible repeat (first | refine kN ?_ _ | refine kD ?_ | refine kA ?_ _)); exact BK139.out⟩, ⟨by (with_reducible repeat (first | refine kN ?_ _ | refine kD ?_ | refine kA ?_ _)); exact BK140.out⟩, ⟨by (with_reducible repeat (first | refine kN ?_ _ | refine kD ?_ | refine kA ?_ _)); exact BK142.out⟩, ⟨by repeat (first | (with_reducible first | exact HB.out | apply bA | apply bN | apply bD | refine bS ?_ GE136.out | refine bS ?_ GE137.out | refine bS ?_ GE138.out | refine bS ?_ GE139.out | refine bS ?_ GE140.out | refine bS ?_ GE142.out) | exact HB.out)⟩⟩
          ·
           rw [if_neg c57] at H
           have c57b0 : (x7_1 == 0) = false := beq_eq_false_iff_ne.mpr c57
           have c57b1 : (x7_1 != 0) = true := bne_iff_ne.mpr c57
           (first | rw [c57b0] | (simp only [i64_w, i32_w]; rw [c57b0]) | skip)
           have H' := aM H
           clear H
           have hnb58 := NB142_136.out
           have hnc58 := NB136_142.out
           have hnb59 := NB142_137.out
           have hnc59 := NB137_142.out
           have hnb60 := NB142_138.out
           have hnc60 := NB138_142.out
           have hnb61 := NB142_139.out
           have hnc61 := NB139_142.out
           have hnb62 := NB142_140.out
           have hnc62 := NB140_142.out
           have hcz63_0 : wc.cell? ⟨gb142, 0, none⟩ = some (.int .i64 ((rd_T33 l0_0 x7_1).f0)) := (blk_cell BK142.out 0).trans rfl
           have hcz63_1 : wc.cell? ⟨gb142, 1, none⟩ = some (.int .i64 ((rd_T33 l0_0 x7_1).f1)) := (blk_cell BK142.out 1).trans rfl
           have hcz63_2 : wc.cell? ⟨gb142, 2, none⟩ = some (.bool ((rd_T33 l0_0 x7_1).f2)) := (blk_cell BK142.out 2).trans rfl
           have hfz63_0 := blk_frozen BK142.out 0
           have hfz63_1 := blk_frozen BK142.out 1
           have hfz63_2 := blk_frozen BK142.out 2
           have hnb64 := NB139_136.out
           have hnc64 := NB136_139.out
           have hnb65 := NB139_137.out
           have hnc65 := NB137_139.out
           have hnb66 := NB139_138.out
           have hnc66 := NB138_139.out
           have hnb67 := NB139_140.out
           have hnc67 := NB140_139.out
           have hcz68_0 : wc.cell? ⟨gb139, 0, none⟩ = some (.int .i64 x140000_42) := (blk_cell BK139.out 0).trans rfl
           have hcz68_1 : wc.cell? ⟨gb139, 1, none⟩ = some (.int .i64 x140001_1) := (blk_cell BK139.out 1).trans rfl
           have hcz68_2 : wc.cell? ⟨gb139, 2, none⟩ = some (.bool false) := (blk_cell BK139.out 2).trans rfl
           have hfz68_0 := blk_frozen BK139.out 0
           have hfz68_1 := blk_frozen BK139.out 1
           have hfz68_2 := blk_frozen BK139.out 2
           go_wp2
           go_meet
           case rel => exact ⟨_, (decide (((rd_T33 l0_0 x7_1).f1) < x140001_1)), (by first | rfl | (simp; done) | (simp [*]; done)), H', ⟨by have := HK1.out; have := HJ17.out; have := HJ42.out; first | omega | exact Nat.le_refl _⟩, ⟨by (with_reducible repeat (first | refine kN ?_ _ | refine kD ?_ | refine kA ?_ _)); exact BK136.out⟩, ⟨by (with_reducible repeat (first | refine kN ?_ _ | refine kD ?_ | refine kA ?_ _)); exact BK137.out⟩, ⟨by (with_reducible repeat (first | refine kN ?_ _ | refine kD ?_ | refine kA ?_ _)); exact BK138.out⟩, ⟨by (with_reducible repeat (first | refine kN ?_ _ | refine kD ?_ | refine kA ?_ _)); exact BK139.out⟩, ⟨by (with_reducible repeat (first | refine kN ?_ _ | refine kD ?_ | refine kA ?_ _)); exact BK140.out⟩, ⟨by (with_reducible repeat (first | refine kN ?_ _ | refine kD ?_ | refine kA ?_ _)); exact BK142.out⟩, ⟨by repeat (first | (with_reducible first | exact HB.out | apply bA | apply bN | apply bD | refine bS ?_ GE136.out | refine bS ?_ GE137.out | refine bS ?_ GE138.out | refine bS ?_ GE139.out | refine bS ?_ GE140.out | refine bS ?_ GE142.out) | exact HB.out)⟩⟩
         case rest =>
          clear HC56
          try clear c1
          try clear p1
          try clear q1
          try clear hx1
          try clear c2
          try clear p2
          try clear c3
          try clear c4
          try clear c5
          try clear c6
          try clear c7
          try clear c8
          try clear c11
          try clear c12
          try clear c13
          try clear c14
          try clear p14
          try clear q14
          try clear hx14
          try clear c16
          try clear c16b0
          try clear c17
          try clear c17b0
          try clear c19
          try clear c20
          try clear c21
          try clear c22
          try clear c25
          try clear c26
          try clear c27
          try clear c28
          try clear c29
          try clear c31
          try clear c31b0
          try clear c31b1
          try clear c32
          try clear c33
          try clear c34
          try clear c35
          try clear c36
          try clear c38
          try clear c39
          try clear c40
          try clear c41
          try clear c44
          try clear c45
          try clear c46
          try clear c47
          try clear c48
          try clear c49
          try clear c51
          try clear c52
          try clear c53
          try clear c54
          try clear c57
          try clear c57b0
          try clear c57b1
          try clear c58
          try clear c59
          try clear c60
          try clear c61
          try clear c62
          try clear c64
          try clear c65
          try clear c66
          try clear c67
          try clear hcz15_0
          try clear hcz15_1
          try clear hcz15_2
          try clear hcz23_0
          try clear hcz23_1
          try clear hcz30_0
          try clear hcz30_1
          try clear hcz30_2
          try clear hcz37_0
          try clear hcz37_1
          try clear hcz37_2
          try clear hcz42_0
          try clear hcz42_1
          try clear hcz42_2
          try clear hcz50_0
          try clear hcz50_1
          try clear hcz50_2
          try clear hcz55_0
          try clear hcz55_1
          try clear hcz55_2
          try clear hcz63_0
          try clear hcz63_1
          try clear hcz63_2
          try clear hcz68_0
          try clear hcz68_1
          try clear hcz68_2
          try clear hcz9_0
          try clear hcz9_1
          try clear hcz9_2
          try clear hfz15_0
          try clear hfz15_1
          try clear hfz15_2
          try clear hfz23_0
          try clear hfz23_1
          try clear hfz30_0
          try clear hfz30_1
          try clear hfz30_2
          try clear hfz37_0
          try clear hfz37_1
          try clear hfz37_2
          try clear hfz42_0
          try clear hfz42_1
          try clear hfz42_2
          try clear hfz50_0
          try clear hfz50_1
          try clear hfz50_2
          try clear hfz55_0
          try clear hfz55_1
          try clear hfz55_2
          try clear hfz63_0
          try clear hfz63_1
          try clear hfz63_2
          try clear hfz68_0
          try clear hfz68_1
          try clear hfz68_2
          try clear hfz9_0
          try clear hfz9_1
          try clear hfz9_2
          try clear hx141_0
          try clear hx141_1
          try clear hx141_2
          try clear p1
          try clear p14
          try clear p141
          try clear p2
          try clear q1
          try clear q14
          try clear q141
          obtain ⟨kq, x43_55, rfl, HA, HJ55, BK136, BK137, BK138, BK139, BK140, BK142, HB⟩ := hcut
          cases kq with
          | zero => exact absurd HA.out (by simp [fleuronref03_Box.j3])
          | succ kj55 =>
           have H := HA.out
           clear HA
           simp only [fleuronref03_Box.j3] at H
           have HC69 := aM H
           clear H
           go_upto_if 43 with (fail)
           go_cut [] (fun wc => ∃ (kq : Nat) (x140001_68 : Int), Aside0 (fleuronref03_Box.j4 kq x7_1 l0_0 l0_1 x140000_42 x140001_68 false x141000_1 x141001_1 false ((rd_T33 l0_0 x7_1).f0) ((rd_T33 l0_0 x7_1).f1) ((rd_T33 l0_0 x7_1).f2) = some (r1, r2, r3, r4, r5, r6, r7)) ∧ Aside0 (kq ≤ kj55) ∧ Aside0 (wc.heap[gb136]? = some (.cells #[(.slice (some ad141) l0_0.length c0_0), (.slice A0_1 l0_1.length c0_1)] 25 (0, 0))) ∧ Aside0 (wc.heap[gb137]? = some (.cells #[.int .i64 0, .int .i64 0, .bool false] 33 (0, 0))) ∧ Aside0 (wc.heap[gb138]? = some (.cells #[.int .i64 0, .int .i64 0, .bool false] 33 (0, 0))) ∧ Aside0 (wc.heap[gb139]? = some (.cells #[.int .i64 x140000_42, .int .i64 x140001_68, .bool false] 33 (0, 0))) ∧ Aside0 (wc.heap[gb140]? = some (.cells #[.int .i64 x141000_1, .int .i64 x141001_1, .bool false] 33 (0, 0))) ∧ Aside0 (wc.heap[gb142]? = some (.cells #[.int .i64 ((rd_T33 l0_0 x7_1).f0), .int .i64 ((rd_T33 l0_0 x7_1).f1), .bool ((rd_T33 l0_0 x7_1).f2)] 33 (0, 0))) ∧ Aside0 (Below w.heap.size w wc))
           case first =>
            have H := HC69.out
            clear HC69
            by_cases c70 : x43_55 = true
            ·
             subst c70
             have H1 : (fleuronref03_Box.j4 kj55 x7_1 l0_0 l0_1 x140000_42 ((rd_T33 l0_0 x7_1).f1) false x141000_1 x141001_1 false ((rd_T33 l0_0 x7_1).f0) ((rd_T33 l0_0 x7_1).f1) ((rd_T33 l0_0 x7_1).f2)) = some (r1, r2, r3, r4, r5, r6, r7) := by rw [if_pos rfl] at H; exact H
             clear H
             have H := H1
             clear H1
             have H' := aM H
             clear H
             have hnb71 := NB142_136.out
             have hnc71 := NB136_142.out
             have hnb72 := NB142_137.out
             have hnc72 := NB137_142.out
             have hnb73 := NB142_138.out
             have hnc73 := NB138_142.out
             have hnb74 := NB142_139.out
             have hnc74 := NB139_142.out
             have hnb75 := NB142_140.out
             have hnc75 := NB140_142.out
             have hcz76_0 : wc.cell? ⟨gb142, 0, none⟩ = some (.int .i64 ((rd_T33 l0_0 x7_1).f0)) := (blk_cell BK142.out 0).trans rfl
             have hcz76_1 : wc.cell? ⟨gb142, 1, none⟩ = some (.int .i64 ((rd_T33 l0_0 x7_1).f1)) := (blk_cell BK142.out 1).trans rfl
             have hcz76_2 : wc.cell? ⟨gb142, 2, none⟩ = some (.bool ((rd_T33 l0_0 x7_1).f2)) := (blk_cell BK142.out 2).trans rfl
             have hfz76_0 := blk_frozen BK142.out 0
             have hfz76_1 := blk_frozen BK142.out 1
             have hfz76_2 := blk_frozen BK142.out 2
             have hnb77 := NB139_136.out
             have hnc77 := NB136_139.out
             have hnb78 := NB139_137.out
             have hnc78 := NB137_139.out
             have hnb79 := NB139_138.out
             have hnc79 := NB138_139.out
             have hnb80 := NB139_140.out
             have hnc80 := NB140_139.out
             have hcz81_0 : wc.cell? ⟨gb139, 0, none⟩ = some (.int .i64 x140000_42) := (blk_cell BK139.out 0).trans rfl
             have hcz81_1 : wc.cell? ⟨gb139, 1, none⟩ = some (.int .i64 x140001_1) := (blk_cell BK139.out 1).trans rfl
             have hcz81_2 : wc.cell? ⟨gb139, 2, none⟩ = some (.bool false) := (blk_cell BK139.out 2).trans rfl
             have hfz81_0 := blk_frozen BK139.out 0
             have hfz81_1 := blk_frozen BK139.out 1
             have hfz81_2 := blk_frozen BK139.out 2
             go_wp2
             go_meet
             case rel => exact ⟨_, (((rd_T33 l0_0 x7_1).f1)), H', ⟨by have := HK1.out; have := HJ17.out; have := HJ42.out; have := HJ55.out; first | omega | exact Nat.le_refl _⟩, ⟨by (with_reducible repeat (first | refine kN ?_ _ | refine kD ?_ | refine kA ?_ _)); refine blk_far ?_ NB136_139.out _; (with_reducible repeat (first | refine kN ?_ _ | refine kD ?_ | refine kA ?_ _)); exact BK136.out⟩, ⟨by (with_reducible repeat (first | refine kN ?_ _ | refine kD ?_ | refine kA ?_ _)); refine blk_far ?_ NB137_139.out _; (with_reducible repeat (first | refine kN ?_ _ | refine kD ?_ | refine kA ?_ _)); exact BK137.out⟩, ⟨by (with_reducible repeat (first | refine kN ?_ _ | refine kD ?_ | refine kA ?_ _)); refine blk_far ?_ NB138_139.out _; (with_reducible repeat (first | refine kN ?_ _ | refine kD ?_ | refine kA ?_ _)); exact BK138.out⟩, ⟨by (with_reducible repeat (first | refine kN ?_ _ | refine kD ?_ | refine kA ?_ _)); refine blk_put (cs := #[.int .i64 x140000_42, .int .i64 x140001_1, .bool false]) ?_ 1 _ rfl; (with_reducible repeat (first | refine kN ?_ _ | refine kD ?_ | refine kA ?_ _)); exact BK139.out⟩, ⟨by (with_reducible repeat (first | refine kN ?_ _ | refine kD ?_ | refine kA ?_ _)); refine blk_far ?_ NB140_139.out _; (with_reducible repeat (first | refine kN ?_ _ | refine kD ?_ | refine kA ?_ _)); exact BK140.out⟩, ⟨by (with_reducible repeat (first | refine kN ?_ _ | refine kD ?_ | refine kA ?_ _)); refine blk_far ?_ NB142_139.out _; (with_reducible repeat (first | refine kN ?_ _ | refine kD ?_ | refine kA ?_ _)); exact BK142.out⟩, ⟨by repeat (first | (with_reducible first | exact HB.out | apply bA | apply bN | apply bD | refine bS ?_ GE136.out | refine bS ?_ GE137.out | refine bS ?_ GE138.out | refine bS ?_ GE139.out | refine bS ?_ GE140.out | refine bS ?_ GE142.out) | exact HB.out)⟩⟩
            ·
             replace c70 := Bool.eq_false_iff.mpr c70
             subst c70
             have H1 : (fleuronref03_Box.j4 kj55 x7_1 l0_0 l0_1 x140000_42 x140001_1 false x141000_1 x141001_1 false ((rd_T33 l0_0 x7_1).f0) ((rd_T33 l0_0 x7_1).f1) ((rd_T33 l0_0 x7_1).f2)) = some (r1, r2, r3, r4, r5, r6, r7) := by rw [if_neg (show ¬ (false = true) by decide)] at H; exact H
             clear H
             have H := H1
             clear H1
             have H' := aM H
             clear H
             go_wp2
             go_meet
             case rel => exact ⟨_, (x140001_1), H', ⟨by have := HK1.out; have := HJ17.out; have := HJ42.out; have := HJ55.out; first | omega | exact Nat.le_refl _⟩, ⟨by (with_reducible repeat (first | refine kN ?_ _ | refine kD ?_ | refine kA ?_ _)); exact BK136.out⟩, ⟨by (with_reducible repeat (first | refine kN ?_ _ | refine kD ?_ | refine kA ?_ _)); exact BK137.out⟩, ⟨by (with_reducible repeat (first | refine kN ?_ _ | refine kD ?_ | refine kA ?_ _)); exact BK138.out⟩, ⟨by (with_reducible repeat (first | refine kN ?_ _ | refine kD ?_ | refine kA ?_ _)); exact BK139.out⟩, ⟨by (with_reducible repeat (first | refine kN ?_ _ | refine kD ?_ | refine kA ?_ _)); exact BK140.out⟩, ⟨by (with_reducible repeat (first | refine kN ?_ _ | refine kD ?_ | refine kA ?_ _)); exact BK142.out⟩, ⟨by repeat (first | (with_reducible first | exact HB.out | apply bA | apply bN | apply bD | refine bS ?_ GE136.out | refine bS ?_ GE137.out | refine bS ?_ GE138.out | refine bS ?_ GE139.out | refine bS ?_ GE140.out | refine bS ?_ GE142.out) | exact HB.out)⟩⟩
           case rest =>
            clear HC69
            try clear c1
            try clear p1
            try clear q1
            try clear hx1
            try clear c2
            try clear p2
            try clear c3
            try clear c4
            try clear c5
            try clear c6
            try clear c7
            try clear c8
            try clear c11
            try clear c12
            try clear c13
            try clear c14
            try clear p14
            try clear q14
            try clear hx14
            try clear c16
            try clear c16b0
            try clear c17
            try clear c17b0
            try clear c19
            try clear c20
            try clear c21
            try clear c22
            try clear c25
            try clear c26
            try clear c27
            try clear c28
            try clear c29
            try clear c31
            try clear c31b0
            try clear c31b1
            try clear c32
            try clear c33
            try clear c34
            try clear c35
            try clear c36
            try clear c38
            try clear c39
            try clear c40
            try clear c41
            try clear c44
            try clear c45
            try clear c46
            try clear c47
            try clear c48
            try clear c49
            try clear c51
            try clear c52
            try clear c53
            try clear c54
            try clear c57
            try clear c57b0
            try clear c57b1
            try clear c58
            try clear c59
            try clear c60
            try clear c61
            try clear c62
            try clear c64
            try clear c65
            try clear c66
            try clear c67
            try clear c70
            try clear c71
            try clear c72
            try clear c73
            try clear c74
            try clear c75
            try clear c77
            try clear c78
            try clear c79
            try clear c80
            try clear hcz15_0
            try clear hcz15_1
            try clear hcz15_2
            try clear hcz23_0
            try clear hcz23_1
            try clear hcz30_0
            try clear hcz30_1
            try clear hcz30_2
            try clear hcz37_0
            try clear hcz37_1
            try clear hcz37_2
            try clear hcz42_0
            try clear hcz42_1
            try clear hcz42_2
            try clear hcz50_0
            try clear hcz50_1
            try clear hcz50_2
            try clear hcz55_0
            try clear hcz55_1
            try clear hcz55_2
            try clear hcz63_0
            try clear hcz63_1
            try clear hcz63_2
            try clear hcz68_0
            try clear hcz68_1
            try clear hcz68_2
            try clear hcz76_0
            try clear hcz76_1
            try clear hcz76_2
            try clear hcz81_0
            try clear hcz81_1
            try clear hcz81_2
            try clear hcz9_0
            try clear hcz9_1
            try clear hcz9_2
            try clear hfz15_0
            try clear hfz15_1
            try clear hfz15_2
            try clear hfz23_0
            try clear hfz23_1
            try clear hfz30_0
            try clear hfz30_1
            try clear hfz30_2
            try clear hfz37_0
            try clear hfz37_1
            try clear hfz37_2
            try clear hfz42_0
            try clear hfz42_1
            try clear hfz42_2
            try clear hfz50_0
            try clear hfz50_1
            try clear hfz50_2
            try clear hfz55_0
            try clear hfz55_1
            try clear hfz55_2
            try clear hfz63_0
            try clear hfz63_1
            try clear hfz63_2
            try clear hfz68_0
            try clear hfz68_1
            try clear hfz68_2
            try clear hfz76_0
            try clear hfz76_1
            try clear hfz76_2
            try clear hfz81_0
            try clear hfz81_1
            try clear hfz81_2
            try clear hfz9_0
            try clear hfz9_1
            try clear hfz9_2
            try clear hx141_0
            try clear hx141_1
            try clear hx141_2
            try clear p1
            try clear p14
            try clear p141
            try clear p2
            try clear q1
            try clear q14
            try clear q141
            obtain ⟨kq, x140001_68, HA, HJ68, BK136, BK137, BK138, BK139, BK140, BK142, HB⟩ := hcut
            cases kq with
            | zero => exact absurd HA.out (by simp [fleuronref03_Box.j4])
            | succ kj68 =>
             have H := HA.out
             clear HA
             simp only [fleuronref03_Box.j4] at H
             have HC82 := aM H
             clear H
             go_upto_region 11 with (fail)
             go_cut [55] (fun v55 wc => ∃ (kq : Nat) (x55_81 : Bool), v55 = .bool x55_81 ∧ Aside0 (fleuronref03_Box.j5 kq x7_1 x55_81 l0_0 l0_1 x140000_42 x140001_68 false x141000_1 x141001_1 false ((rd_T33 l0_0 x7_1).f0) ((rd_T33 l0_0 x7_1).f1) ((rd_T33 l0_0 x7_1).f2) = some (r1, r2, r3, r4, r5, r6, r7)) ∧ Aside0 (kq ≤ kj68) ∧ Aside0 (wc.heap[gb136]? = some (.cells #[(.slice (some ad141) l0_0.length c0_0), (.slice A0_1 l0_1.length c0_1)] 25 (0, 0))) ∧ Aside0 (wc.heap[gb137]? = some (.cells #[.int .i64 0, .int .i64 0, .bool false] 33 (0, 0))) ∧ Aside0 (wc.heap[gb138]? = some (.cells #[.int .i64 0, .int .i64 0, .bool false] 33 (0, 0))) ∧ Aside0 (wc.heap[gb139]? = some (.cells #[.int .i64 x140000_42, .int .i64 x140001_68, .bool false] 33 (0, 0))) ∧ Aside0 (wc.heap[gb140]? = some (.cells #[.int .i64 x141000_1, .int .i64 x141001_1, .bool false] 33 (0, 0))) ∧ Aside0 (wc.heap[gb142]? = some (.cells #[.int .i64 ((rd_T33 l0_0 x7_1).f0), .int .i64 ((rd_T33 l0_0 x7_1).f1), .bool ((rd_T33 l0_0 x7_1).f2)] 33 (0, 0))) ∧ Aside0 (Below w.heap.size w wc))
             case first =>
              have H := HC82.out
              clear HC82
              by_cases c83 : x7_1 = 0
              ·
               rw [if_pos c83] at H
               have c83b0 : (x7_1 == 0) = true := beq_iff_eq.mpr c83
               have c83b1 : (x7_1 != 0) = false := bne_eq_false_iff_eq.mpr c83
               clear c83
               (first | rw [c83b0] | (simp only [i64_w, i32_w]; rw [c83b0]) | skip)
               have H' := aM H
               clear H
               go_wp2
               go_meet
               case rel => exact ⟨_, (true), (by first | rfl | (simp; done) | (simp [*]; done)), H', ⟨by have := HK1.out; have := HJ17.out; have := HJ42.out; have := HJ55.out; have := HJ68.out; first | omega | exact Nat.le_refl _⟩, ⟨by (with_reducible repeat (first | refine kN ?_ _ | refine kD ?_ | refine kA ?_ _)); exact BK136.out⟩, ⟨by (with_reducible repeat (first | refine kN ?_ _ | refine kD ?_ | refine kA ?_ _)); exact BK137.out⟩, ⟨by (with_reducible repeat (first | refine kN ?_ _ | refine kD ?_ | refine kA ?_ _)); exact BK138.out⟩, ⟨by (with_reducible repeat (first | refine kN ?_ _ | refine kD ?_ | refine kA ?_ _)); exact BK139.out⟩, ⟨by (with_reducible repeat (first | refine kN ?_ _ | refine kD ?_ | refine kA ?_ _)); exact BK140.out⟩, ⟨by (with_reducible repeat (first | refine kN ?_ _ | refine kD ?_ | refine kA ?_ _)); exact BK142.out⟩, ⟨by repeat (first | (with_reducible first | exact HB.out | apply bA | apply bN | apply bD | refine bS ?_ GE136.out | refine bS ?_ GE137.out | refine bS ?_ GE138.out | refine bS ?_ GE139.out | refine bS ?_ GE140.out | refine bS ?_ GE142.out) | exact HB.out)⟩⟩
              ·
               rw [if_neg c83] at H
               have c83b0 : (x7_1 == 0) = false := beq_eq_false_iff_ne.mpr c83
               have c83b1 : (x7_1 != 0) = true := bne_iff_ne.mpr c83
               (first | rw [c83b0] | (simp only [i64_w, i32_w]; rw [c83b0]) | skip)
               have H' := aM H
               clear H
               have hnb84 := NB142_136.out
               have hnc84 := NB136_142.out
               have hnb85 := NB142_137.out
               have hnc85 := NB137_142.out
               have hnb86 := NB142_138.out
               have hnc86 := NB138_142.out
               have hnb87 := NB142_139.out
               have hnc87 := NB139_142.out
               have hnb88 := NB142_140.out
               have hnc88 := NB140_142.out
               have hcz89_0 : wc.cell? ⟨gb142, 0, none⟩ = some (.int .i64 ((rd_T33 l0_0 x7_1).f0)) := (blk_cell BK142.out 0).trans rfl
               have hcz89_1 : wc.cell? ⟨gb142, 1, none⟩ = some (.int .i64 ((rd_T33 l0_0 x7_1).f1)) := (blk_cell BK142.out 1).trans rfl
               have hcz89_2 : wc.cell? ⟨gb142, 2, none⟩ = some (.bool ((rd_T33 l0_0 x7_1).f2)) := (blk_cell BK142.out 2).trans rfl
               have hfz89_0 := blk_frozen BK142.out 0
               have hfz89_1 := blk_frozen BK142.out 1
               have hfz89_2 := blk_frozen BK142.out 2
               have hnb90 := NB140_136.out
               have hnc90 := NB136_140.out
               have hnb91 := NB140_137.out
               have hnc91 := NB137_140.out
               have hnb92 := NB140_138.out
               have hnc92 := NB138_140.out
               have hnb93 := NB140_139.out
               have hnc93 := NB139_140.out
               have hcz94_0 : wc.cell? ⟨gb140, 0, none⟩ = some (.int .i64 x141000_1) := (blk_cell BK140.out 0).trans rfl
               have hcz94_1 : wc.cell? ⟨gb140, 1, none⟩ = some (.int .i64 x141001_1) := (blk_cell BK140.out 1).trans rfl
               have hcz94_2 : wc.cell? ⟨gb140, 2, none⟩ = some (.bool false) := (blk_cell BK140.out 2).trans rfl
               have hfz94_0 := blk_frozen BK140.out 0
               have hfz94_1 := blk_frozen BK140.out 1
               have hfz94_2 := blk_frozen BK140.out 2
               go_wp2
               go_meet
               case rel => exact ⟨_, (decide (((rd_T33 l0_0 x7_1).f0) > x141000_1)), (by first | rfl | (simp; done) | (simp [*]; done)), H', ⟨by have := HK1.out; have := HJ17.out; have := HJ42.out; have := HJ55.out; have := HJ68.out; first | omega | exact Nat.le_refl _⟩, ⟨by (with_reducible repeat (first | refine kN ?_ _ | refine kD ?_ | refine kA ?_ _)); exact BK136.out⟩, ⟨by (with_reducible repeat (first | refine kN ?_ _ | refine kD ?_ | refine kA ?_ _)); exact BK137.out⟩, ⟨by (with_reducible repeat (first | refine kN ?_ _ | refine kD ?_ | refine kA ?_ _)); exact BK138.out⟩, ⟨by (with_reducible repeat (first | refine kN ?_ _ | refine kD ?_ | refine kA ?_ _)); exact BK139.out⟩, ⟨by (with_reducible repeat (first | refine kN ?_ _ | refine kD ?_ | refine kA ?_ _)); exact BK140.out⟩, ⟨by (with_reducible repeat (first | refine kN ?_ _ | refine kD ?_ | refine kA ?_ _)); exact BK142.out⟩, ⟨by repeat (first | (with_reducible first | exact HB.out | apply bA | apply bN | apply bD | refine bS ?_ GE136.out | refine bS ?_ GE137.out | refine bS ?_ GE138.out | refine bS ?_ GE139.out | refine bS ?_ GE140.out | refine bS ?_ GE142.out) | exact HB.out)⟩⟩
             case rest =>
              clear HC82
              try clear c1
              try clear p1
              try clear q1
              try clear hx1
              try clear c2
              try clear p2
              try clear c3
              try clear c4
              try clear c5
              try clear c6
              try clear c7
              try clear c8
              try clear c9
              try clear c11
              try clear c12
              try clear c13
              try clear c14
              try clear p14
              try clear q14
              try clear hx14
              try clear c16
              try clear c16b0
              try clear c17
              try clear c17b0
              try clear c19
              try clear c20
              try clear c21
              try clear c22
              try clear c25
              try clear c26
              try clear c27
              try clear c28
              try clear c29
              try clear c31
              try clear c31b0
              try clear c31b1
              try clear c32
              try clear c33
              try clear c34
              try clear c35
              try clear c36
              try clear c38
              try clear c39
              try clear c40
              try clear c41
              try clear c44
              try clear c45
              try clear c46
              try clear c47
              try clear c48
              try clear c49
              try clear c51
              try clear c52
              try clear c53
              try clear c54
              try clear c57
              try clear c57b0
              try clear c57b1
              try clear c58
              try clear c59
              try clear c60
              try clear c61
              try clear c62
              try clear c64
              try clear c65
              try clear c66
              try clear c67
              try clear c70
              try clear c71
              try clear c72
              try clear c73
              try clear c74
              try clear c75
              try clear c77
              try clear c78
              try clear c79
              try clear c80
              try clear c83
              try clear c83b0
              try clear c83b1
              try clear c84
              try clear c85
              try clear c86
              try clear c87
              try clear c88
              try clear c90
              try clear c91
              try clear c92
              try clear c93
              try clear hcz15_0
              try clear hcz15_1
              try clear hcz15_2
              try clear hcz23_0
              try clear hcz23_1
              try clear hcz30_0
              try clear hcz30_1
              try clear hcz30_2
              try clear hcz37_0
              try clear hcz37_1
              try clear hcz37_2
              try clear hcz42_0
              try clear hcz42_1
              try clear hcz42_2
              try clear hcz50_0
              try clear hcz50_1
              try clear hcz50_2
              try clear hcz55_0
              try clear hcz55_1
              try clear hcz55_2
              try clear hcz63_0
              try clear hcz63_1
              try clear hcz63_2
              try clear hcz68_0
              try clear hcz68_1
              try clear hcz68_2
              try clear hcz76_0
              try clear hcz76_1
              try clear hcz76_2
              try clear hcz81_0
              try clear hcz81_1
              try clear hcz81_2
              try clear hcz89_0
              try clear hcz89_1
              try clear hcz89_2
              try clear hcz94_0
              try clear hcz94_1
              try clear hcz94_2
              try clear hcz9_0
              try clear hcz9_1
              try clear hcz9_2
              try clear hfz15_0
              try clear hfz15_1
              try clear hfz15_2
              try clear hfz23_0
              try clear hfz23_1
              try clear hfz30_0
              try clear hfz30_1
              try clear hfz30_2
              try clear hfz37_0
              try clear hfz37_1
              try clear hfz37_2
              try clear hfz42_0
              try clear hfz42_1
              try clear hfz42_2
              try clear hfz50_0
              try clear hfz50_1
              try clear hfz50_2
              try clear hfz55_0
              try clear hfz55_1
              try clear hfz55_2
              try clear hfz63_0
              try clear hfz63_1
              try clear hfz63_2
              try clear hfz68_0
              try clear hfz68_1
              try clear hfz68_2
              try clear hfz76_0
              try clear hfz76_1
              try clear hfz76_2
              try clear hfz81_0
              try clear hfz81_1
              try clear hfz81_2
              try clear hfz89_0
              try clear hfz89_1
              try clear hfz89_2
              try clear hfz94_0
              try clear hfz94_1
              try clear hfz94_2
              try clear hfz9_0
              try clear hfz9_1
              try clear hfz9_2
              try clear hx141_0
              try clear hx141_1
              try clear hx141_2
              try clear p1
              try clear p14
              try clear p141
              try clear p2
              try clear q1
              try clear q14
              try clear q141
              obtain ⟨kq, x55_81, rfl, HA, HJ81, BK136, BK137, BK138, BK139, BK140, BK142, HB⟩ := hcut
              cases kq with
              | zero => exact absurd HA.out (by simp [fleuronref03_Box.j5])
              | succ kj81 =>
               have H := HA.out
               clear HA
               simp only [fleuronref03_Box.j5] at H
               by_cases c95 : x55_81 = true
               ·
                subst c95
                have H1 : (if x7_1 = 0 then (fleuronref03_Box.l0 kj81 (wrap64 (x7_1 + 1)) l0_0 l0_1 x140000_42 x140001_68 false ((rd_T33 l0_0 x7_1).f0) ((rd_T33 l0_0 x7_1).f1) false) else (if ((rd_T33 l0_0 x7_1).f1) > x141001_1 then (fleuronref03_Box.l0 kj81 (wrap64 (x7_1 + 1)) l0_0 l0_1 x140000_42 x140001_68 false ((rd_T33 l0_0 x7_1).f0) ((rd_T33 l0_0 x7_1).f1) false) else (fleuronref03_Box.l0 kj81 (wrap64 (x7_1 + 1)) l0_0 l0_1 x140000_42 x140001_68 false ((rd_T33 l0_0 x7_1).f0) x141001_1 false))) = some (r1, r2, r3, r4, r5, r6, r7) := by rw [if_pos rfl] at H; exact H
                clear H
                have H := H1
                clear H1
                by_cases c96 : x7_1 = 0
                ·
                 rw [if_pos c96] at H
                 have c96b0 : (x7_1 == 0) = true := beq_iff_eq.mpr c96
                 have c96b1 : (x7_1 != 0) = false := bne_eq_false_iff_eq.mpr c96
                 clear c96
                 have H' := aM H
                 clear H
                 have hnb97 := NB142_136.out
                 have hnc97 := NB136_142.out
                 have hnb98 := NB142_137.out
                 have hnc98 := NB137_142.out
                 have hnb99 := NB142_138.out
                 have hnc99 := NB138_142.out
                 have hnb100 := NB142_139.out
                 have hnc100 := NB139_142.out
                 have hnb101 := NB142_140.out
                 have hnc101 := NB140_142.out
                 have hcz102_0 : wc.cell? ⟨gb142, 0, none⟩ = some (.int .i64 ((rd_T33 l0_0 x7_1).f0)) := (blk_cell BK142.out 0).trans rfl
                 have hcz102_1 : wc.cell? ⟨gb142, 1, none⟩ = some (.int .i64 ((rd_T33 l0_0 x7_1).f1)) := (blk_cell BK142.out 1).trans rfl
                 have hcz102_2 : wc.cell? ⟨gb142, 2, none⟩ = some (.bool ((rd_T33 l0_0 x7_1).f2)) := (blk_cell BK142.out 2).trans rfl
                 have hfz102_0 := blk_frozen BK142.out 0
                 have hfz102_1 := blk_frozen BK142.out 1
                 have hfz102_2 := blk_frozen BK142.out 2
                 have hnb103 := NB140_136.out
                 have hnc103 := NB136_140.out
                 have hnb104 := NB140_137.out
                 have hnc104 := NB137_140.out
                 have hnb105 := NB140_138.out
                 have hnc105 := NB138_140.out
                 have hnb106 := NB140_139.out
                 have hnc106 := NB139_140.out
                 have hcz107_0 : wc.cell? ⟨gb140, 0, none⟩ = some (.int .i64 x141000_1) := (blk_cell BK140.out 0).trans rfl
                 have hcz107_1 : wc.cell? ⟨gb140, 1, none⟩ = some (.int .i64 x141001_1) := (blk_cell BK140.out 1).trans rfl
                 have hcz107_2 : wc.cell? ⟨gb140, 2, none⟩ = some (.bool false) := (blk_cell BK140.out 2).trans rfl
                 have hfz107_0 := blk_frozen BK140.out 0
                 have hfz107_1 := blk_frozen BK140.out 1
                 have hfz107_2 := blk_frozen BK140.out 2
                 go_wp2
                 go_roundg kj81
                 case measure => have := HK1.out; have := HJ17.out; have := HJ42.out; have := HJ55.out; have := HJ68.out; have := HJ81.out; omega
                 case rel => exact ⟨(wrap64 (x7_1 + 1)), (x140000_42), (x140001_68), (((rd_T33 l0_0 x7_1).f0)), (((rd_T33 l0_0 x7_1).f1)), (by first | rfl | (simp; done) | (simp [*]; done)), H', ⟨by have := HK1.out; have := HJ17.out; have := HJ42.out; have := HJ55.out; have := HJ68.out; have := HJ81.out; omega⟩, ⟨by (with_reducible repeat (first | refine kN ?_ _ | refine kD ?_ | refine kA ?_ _)); refine blk_far ?_ NB136_140.out _; (with_reducible repeat (first | refine kN ?_ _ | refine kD ?_ | refine kA ?_ _)); refine blk_far ?_ NB136_140.out _; (with_reducible repeat (first | refine kN ?_ _ | refine kD ?_ | refine kA ?_ _)); exact BK136.out⟩, ⟨by (with_reducible repeat (first | refine kN ?_ _ | refine kD ?_ | refine kA ?_ _)); refine blk_far ?_ NB137_140.out _; (with_reducible repeat (first | refine kN ?_ _ | refine kD ?_ | refine kA ?_ _)); refine blk_far ?_ NB137_140.out _; (with_reducible repeat (first | refine kN ?_ _ | refine kD ?_ | refine kA ?_ _)); exact BK137.out⟩, ⟨by (with_reducible repeat (first | refine kN ?_ _ | refine kD ?_ | refine kA ?_ _)); refine blk_far ?_ NB138_140.out _; (with_reducible repeat (first | refine kN ?_ _ | refine kD ?_ | refine kA ?_ _)); refine blk_far ?_ NB138_140.out _; (with_reducible repeat (first | refine kN ?_ _ | refine kD ?_ | refine kA ?_ _)); exact BK138.out⟩, ⟨by (with_reducible repeat (first | refine kN ?_ _ | refine kD ?_ | refine kA ?_ _)); refine blk_far ?_ NB139_140.out _; (with_reducible repeat (first | refine kN ?_ _ | refine kD ?_ | refine kA ?_ _)); refine blk_far ?_ NB139_140.out _; (with_reducible repeat (first | refine kN ?_ _ | refine kD ?_ | refine kA ?_ _)); exact BK139.out⟩, ⟨by (with_reducible repeat (first | refine kN ?_ _ | refine kD ?_ | refine kA ?_ _)); refine blk_put (cs := #[.int .i64 ((rd_T33 l0_0 x7_1).f0), .int .i64 x141001_1, .bool false]) ?_ 1 _ rfl; (with_reducible repeat (first | refine kN ?_ _ | refine kD ?_ | refine kA ?_ _)); refine blk_put (cs := #[.int .i64 x141000_1, .int .i64 x141001_1, .bool false]) ?_ 0 _ rfl; (with_reducible repeat (first | refine kN ?_ _ | refine kD ?_ | refine kA ?_ _)); exact BK140.out⟩, ⟨by repeat (first | (with_reducible first | exact HB.out | apply bA | apply bN | apply bD | refine bS ?_ GE136.out | refine bS ?_ GE137.out | refine bS ?_ GE138.out | refine bS ?_ GE139.out | refine bS ?_ GE140.out | refine bS ?_ GE142.out) | exact HB.out)⟩⟩
                ·
                 rw [if_neg c96] at H
                 have c96b0 : (x7_1 == 0) = false := beq_eq_false_iff_ne.mpr c96
                 have c96b1 : (x7_1 != 0) = true := bne_iff_ne.mpr c96
                 by_cases c108 : ((rd_T33 l0_0 x7_1).f1) > x141001_1
                 ·
                  rw [if_pos c108] at H
                  have c108b0 : decide (x141001_1 < ((rd_T33 l0_0 x7_1).f1)) = true := decide_eq_true c108
                  clear c108
                  have H' := aM H
                  clear H
                  have hnb109 := NB142_136.out
                  have hnc109 := NB136_142.out
                  have hnb110 := NB142_137.out
                  have hnc110 := NB137_142.out
                  have hnb111 := NB142_138.out
                  have hnc111 := NB138_142.out
                  have hnb112 := NB142_139.out
                  have hnc112 := NB139_142.out
                  have hnb113 := NB142_140.out
                  have hnc113 := NB140_142.out
                  have hcz114_0 : wc.cell? ⟨gb142, 0, none⟩ = some (.int .i64 ((rd_T33 l0_0 x7_1).f0)) := (blk_cell BK142.out 0).trans rfl
                  have hcz114_1 : wc.cell? ⟨gb142, 1, none⟩ = some (.int .i64 ((rd_T33 l0_0 x7_1).f1)) := (blk_cell BK142.out 1).trans rfl
                  have hcz114_2 : wc.cell? ⟨gb142, 2, none⟩ = some (.bool ((rd_T33 l0_0 x7_1).f2)) := (blk_cell BK142.out 2).trans rfl
                  have hfz114_0 := blk_frozen BK142.out 0
                  have hfz114_1 := blk_frozen BK142.out 1
                  have hfz114_2 := blk_frozen BK142.out 2
                  have hnb115 := NB140_136.out
                  have hnc115 := NB136_140.out
                  have hnb116 := NB140_137.out
                  have hnc116 := NB137_140.out
                  have hnb117 := NB140_138.out
                  have hnc117 := NB138_140.out
                  have hnb118 := NB140_139.out
                  have hnc118 := NB139_140.out
                  have hcz119_0 : wc.cell? ⟨gb140, 0, none⟩ = some (.int .i64 x141000_1) := (blk_cell BK140.out 0).trans rfl
                  have hcz119_1 : wc.cell? ⟨gb140, 1, none⟩ = some (.int .i64 x141001_1) := (blk_cell BK140.out 1).trans rfl
                  have hcz119_2 : wc.cell? ⟨gb140, 2, none⟩ = some (.bool false) := (blk_cell BK140.out 2).trans rfl
                  have hfz119_0 := blk_frozen BK140.out 0
                  have hfz119_1 := blk_frozen BK140.out 1
                  have hfz119_2 := blk_frozen BK140.out 2
                  go_wp2
                  go_roundg kj81
                  case measure => have := HK1.out; have := HJ17.out; have := HJ42.out; have := HJ55.out; have := HJ68.out; have := HJ81.out; omega
                  case rel => exact ⟨(wrap64 (x7_1 + 1)), (x140000_42), (x140001_68), (((rd_T33 l0_0 x7_1).f0)), (((rd_T33 l0_0 x7_1).f1)), (by first | rfl | (simp; done) | (simp [*]; done)), H', ⟨by have := HK1.out; have := HJ17.out; have := HJ42.out; have := HJ55.out; have := HJ68.out; have := HJ81.out; omega⟩, ⟨by (with_reducible repeat (first | refine kN ?_ _ | refine kD ?_ | refine kA ?_ _)); refine blk_far ?_ NB136_140.out _; (with_reducible repeat (first | refine kN ?_ _ | refine kD ?_ | refine kA ?_ _)); refine blk_far ?_ NB136_140.out _; (with_reducible repeat (first | refine kN ?_ _ | refine kD ?_ | refine kA ?_ _)); exact BK136.out⟩, ⟨by (with_reducible repeat (first | refine kN ?_ _ | refine kD ?_ | refine kA ?_ _)); refine blk_far ?_ NB137_140.out _; (with_reducible repeat (first | refine kN ?_ _ | refine kD ?_ | refine kA ?_ _)); refine blk_far ?_ NB137_140.out _; (with_reducible repeat (first | refine kN ?_ _ | refine kD ?_ | refine kA ?_ _)); exact BK137.out⟩, ⟨by (with_reducible repeat (first | refine kN ?_ _ | refine kD ?_ | refine kA ?_ _)); refine blk_far ?_ NB138_140.out _; (with_reducible repeat (first | refine kN ?_ _ | refine kD ?_ | refine kA ?_ _)); refine blk_far ?_ NB138_140.out _; (with_reducible repeat (first | refine kN ?_ _ | refine kD ?_ | refine kA ?_ _)); exact BK138.out⟩, ⟨by (with_reducible repeat (first | refine kN ?_ _ | refine kD ?_ | refine kA ?_ _)); refine blk_far ?_ NB139_140.out _; (with_reducible repeat (first | refine kN ?_ _ | refine kD ?_ | refine kA ?_ _)); refine blk_far ?_ NB139_140.out _; (with_reducible repeat (first | refine kN ?_ _ | refine kD ?_ | refine kA ?_ _)); exact BK139.out⟩, ⟨by (with_reducible repeat (first | refine kN ?_ _ | refine kD ?_ | refine kA ?_ _)); refine blk_put (cs := #[.int .i64 ((rd_T33 l0_0 x7_1).f0), .int .i64 x141001_1, .bool false]) ?_ 1 _ rfl; (with_reducible repeat (first | refine kN ?_ _ | refine kD ?_ | refine kA ?_ _)); refine blk_put (cs := #[.int .i64 x141000_1, .int .i64 x141001_1, .bool false]) ?_ 0 _ rfl; (with_reducible repeat (first | refine kN ?_ _ | refine kD ?_ | refine kA ?_ _)); exact BK140.out⟩, ⟨by repeat (first | (with_reducible first | exact HB.out | apply bA | apply bN | apply bD | refine bS ?_ GE136.out | refine bS ?_ GE137.out | refine bS ?_ GE138.out | refine bS ?_ GE139.out | refine bS ?_ GE140.out | refine bS ?_ GE142.out) | exact HB.out)⟩⟩
                 ·
                  rw [if_neg c108] at H
                  have c108b0 : decide (x141001_1 < ((rd_T33 l0_0 x7_1).f1)) = false := decide_eq_false c108
                  clear c108
                  have H' := aM H
                  clear H
                  have hnb120 := NB142_136.out
                  have hnc120 := NB136_142.out
                  have hnb121 := NB142_137.out
                  have hnc121 := NB137_142.out
                  have hnb122 := NB142_138.out
                  have hnc122 := NB138_142.out
                  have hnb123 := NB142_139.out
                  have hnc123 := NB139_142.out
                  have hnb124 := NB142_140.out
                  have hnc124 := NB140_142.out
                  have hcz125_0 : wc.cell? ⟨gb142, 0, none⟩ = some (.int .i64 ((rd_T33 l0_0 x7_1).f0)) := (blk_cell BK142.out 0).trans rfl
                  have hcz125_1 : wc.cell? ⟨gb142, 1, none⟩ = some (.int .i64 ((rd_T33 l0_0 x7_1).f1)) := (blk_cell BK142.out 1).trans rfl
                  have hcz125_2 : wc.cell? ⟨gb142, 2, none⟩ = some (.bool ((rd_T33 l0_0 x7_1).f2)) := (blk_cell BK142.out 2).trans rfl
                  have hfz125_0 := blk_frozen BK142.out 0
                  have hfz125_1 := blk_frozen BK142.out 1
                  have hfz125_2 := blk_frozen BK142.out 2
                  have hnb126 := NB140_136.out
                  have hnc126 := NB136_140.out
                  have hnb127 := NB140_137.out
                  have hnc127 := NB137_140.out
                  have hnb128 := NB140_138.out
                  have hnc128 := NB138_140.out
                  have hnb129 := NB140_139.out
                  have hnc129 := NB139_140.out
                  have hcz130_0 : wc.cell? ⟨gb140, 0, none⟩ = some (.int .i64 x141000_1) := (blk_cell BK140.out 0).trans rfl
                  have hcz130_1 : wc.cell? ⟨gb140, 1, none⟩ = some (.int .i64 x141001_1) := (blk_cell BK140.out 1).trans rfl
                  have hcz130_2 : wc.cell? ⟨gb140, 2, none⟩ = some (.bool false) := (blk_cell BK140.out 2).trans rfl
                  have hfz130_0 := blk_frozen BK140.out 0
                  have hfz130_1 := blk_frozen BK140.out 1
                  have hfz130_2 := blk_frozen BK140.out 2
                  go_wp2
                  go_roundg kj81
                  case measure => have := HK1.out; have := HJ17.out; have := HJ42.out; have := HJ55.out; have := HJ68.out; have := HJ81.out; omega
                  case rel => exact ⟨(wrap64 (x7_1 + 1)), (x140000_42), (x140001_68), (((rd_T33 l0_0 x7_1).f0)), (x141001_1), (by first | rfl | (simp; done) | (simp [*]; done)), H', ⟨by have := HK1.out; have := HJ17.out; have := HJ42.out; have := HJ55.out; have := HJ68.out; have := HJ81.out; omega⟩, ⟨by (with_reducible repeat (first | refine kN ?_ _ | refine kD ?_ | refine kA ?_ _)); refine blk_far ?_ NB136_140.out _; (with_reducible repeat (first | refine kN ?_ _ | refine kD ?_ | refine kA ?_ _)); exact BK136.out⟩, ⟨by (with_reducible repeat (first | refine kN ?_ _ | refine kD ?_ | refine kA ?_ _)); refine blk_far ?_ NB137_140.out _; (with_reducible repeat (first | refine kN ?_ _ | refine kD ?_ | refine kA ?_ _)); exact BK137.out⟩, ⟨by (with_reducible repeat (first | refine kN ?_ _ | refine kD ?_ | refine kA ?_ _)); refine blk_far ?_ NB138_140.out _; (with_reducible repeat (first | refine kN ?_ _ | refine kD ?_ | refine kA ?_ _)); exact BK138.out⟩, ⟨by (with_reducible repeat (first | refine kN ?_ _ | refine kD ?_ | refine kA ?_ _)); refine blk_far ?_ NB139_140.out _; (with_reducible repeat (first | refine kN ?_ _ | refine kD ?_ | refine kA ?_ _)); exact BK139.out⟩, ⟨by (with_reducible repeat (first | refine kN ?_ _ | refine kD ?_ | refine kA ?_ _)); refine blk_put (cs := #[.int .i64 x141000_1, .int .i64 x141001_1, .bool false]) ?_ 0 _ rfl; (with_reducible repeat (first | refine kN ?_ _ | refine kD ?_ | refine kA ?_ _)); exact BK140.out⟩, ⟨by repeat (first | (with_reducible first | exact HB.out | apply bA | apply bN | apply bD | refine bS ?_ GE136.out | refine bS ?_ GE137.out | refine bS ?_ GE138.out | refine bS ?_ GE139.out | refine bS ?_ GE140.out | refine bS ?_ GE142.out) | exact HB.out)⟩⟩
               ·
                replace c95 := Bool.eq_false_iff.mpr c95
                subst c95
                have H1 : (if x7_1 = 0 then (fleuronref03_Box.l0 kj81 (wrap64 (x7_1 + 1)) l0_0 l0_1 x140000_42 x140001_68 false x141000_1 ((rd_T33 l0_0 x7_1).f1) false) else (if ((rd_T33 l0_0 x7_1).f1) > x141001_1 then (fleuronref03_Box.l0 kj81 (wrap64 (x7_1 + 1)) l0_0 l0_1 x140000_42 x140001_68 false x141000_1 ((rd_T33 l0_0 x7_1).f1) false) else (fleuronref03_Box.l0 kj81 (wrap64 (x7_1 + 1)) l0_0 l0_1 x140000_42 x140001_68 false x141000_1 x141001_1 false))) = some (r1, r2, r3, r4, r5, r6, r7) := by rw [if_neg (show ¬ (false = true) by decide)] at H; exact H
                clear H
                have H := H1
                clear H1
                by_cases c131 : x7_1 = 0
                ·
                 rw [if_pos c131] at H
                 have c131b0 : (x7_1 == 0) = true := beq_iff_eq.mpr c131
                 have c131b1 : (x7_1 != 0) = false := bne_eq_false_iff_eq.mpr c131
                 clear c131
                 have H' := aM H
                 clear H
                 have hnb132 := NB142_136.out
                 have hnc132 := NB136_142.out
                 have hnb133 := NB142_137.out
                 have hnc133 := NB137_142.out
                 have hnb134 := NB142_138.out
                 have hnc134 := NB138_142.out
                 have hnb135 := NB142_139.out
                 have hnc135 := NB139_142.out
                 have hnb136 := NB142_140.out
                 have hnc136 := NB140_142.out
                 have hcz137_0 : wc.cell? ⟨gb142, 0, none⟩ = some (.int .i64 ((rd_T33 l0_0 x7_1).f0)) := (blk_cell BK142.out 0).trans rfl
                 have hcz137_1 : wc.cell? ⟨gb142, 1, none⟩ = some (.int .i64 ((rd_T33 l0_0 x7_1).f1)) := (blk_cell BK142.out 1).trans rfl
                 have hcz137_2 : wc.cell? ⟨gb142, 2, none⟩ = some (.bool ((rd_T33 l0_0 x7_1).f2)) := (blk_cell BK142.out 2).trans rfl
                 have hfz137_0 := blk_frozen BK142.out 0
                 have hfz137_1 := blk_frozen BK142.out 1
                 have hfz137_2 := blk_frozen BK142.out 2
                 have hnb138 := NB140_136.out
                 have hnc138 := NB136_140.out
                 have hnb139 := NB140_137.out
                 have hnc139 := NB137_140.out
                 have hnb140 := NB140_138.out
                 have hnc140 := NB138_140.out
                 have hnb141 := NB140_139.out
                 have hnc141 := NB139_140.out
                 have hcz142_0 : wc.cell? ⟨gb140, 0, none⟩ = some (.int .i64 x141000_1) := (blk_cell BK140.out 0).trans rfl
                 have hcz142_1 : wc.cell? ⟨gb140, 1, none⟩ = some (.int .i64 x141001_1) := (blk_cell BK140.out 1).trans rfl
                 have hcz142_2 : wc.cell? ⟨gb140, 2, none⟩ = some (.bool false) := (blk_cell BK140.out 2).trans rfl
                 have hfz142_0 := blk_frozen BK140.out 0
                 have hfz142_1 := blk_frozen BK140.out 1
                 have hfz142_2 := blk_frozen BK140.out 2
                 go_wp2
                 go_roundg kj81
                 case measure => have := HK1.out; have := HJ17.out; have := HJ42.out; have := HJ55.out; have := HJ68.out; have := HJ81.out; omega
                 case rel => exact ⟨(wrap64 (x7_1 + 1)), (x140000_42), (x140001_68), (x141000_1), (((rd_T33 l0_0 x7_1).f1)), (by first | rfl | (simp; done) | (simp [*]; done)), H', ⟨by have := HK1.out; have := HJ17.out; have := HJ42.out; have := HJ55.out; have := HJ68.out; have := HJ81.out; omega⟩, ⟨by (with_reducible repeat (first | refine kN ?_ _ | refine kD ?_ | refine kA ?_ _)); refine blk_far ?_ NB136_140.out _; (with_reducible repeat (first | refine kN ?_ _ | refine kD ?_ | refine kA ?_ _)); exact BK136.out⟩, ⟨by (with_reducible repeat (first | refine kN ?_ _ | refine kD ?_ | refine kA ?_ _)); refine blk_far ?_ NB137_140.out _; (with_reducible repeat (first | refine kN ?_ _ | refine kD ?_ | refine kA ?_ _)); exact BK137.out⟩, ⟨by (with_reducible repeat (first | refine kN ?_ _ | refine kD ?_ | refine kA ?_ _)); refine blk_far ?_ NB138_140.out _; (with_reducible repeat (first | refine kN ?_ _ | refine kD ?_ | refine kA ?_ _)); exact BK138.out⟩, ⟨by (with_reducible repeat (first | refine kN ?_ _ | refine kD ?_ | refine kA ?_ _)); refine blk_far ?_ NB139_140.out _; (with_reducible repeat (first | refine kN ?_ _ | refine kD ?_ | refine kA ?_ _)); exact BK139.out⟩, ⟨by (with_reducible repeat (first | refine kN ?_ _ | refine kD ?_ | refine kA ?_ _)); refine blk_put (cs := #[.int .i64 x141000_1, .int .i64 x141001_1, .bool false]) ?_ 1 _ rfl; (with_reducible repeat (first | refine kN ?_ _ | refine kD ?_ | refine kA ?_ _)); exact BK140.out⟩, ⟨by repeat (first | (with_reducible first | exact HB.out | apply bA | apply bN | apply bD | refine bS ?_ GE136.out | refine bS ?_ GE137.out | refine bS ?_ GE138.out | refine bS ?_ GE139.out | refine bS ?_ GE140.out | refine bS ?_ GE142.out) | exact HB.out)⟩⟩
                ·
                 rw [if_neg c131] at H
                 have c131b0 : (x7_1 == 0) = false := beq_eq_false_iff_ne.mpr c131
                 have c131b1 : (x7_1 != 0) = true := bne_iff_ne.mpr c131
                 by_cases c143 : ((rd_T33 l0_0 x7_1).f1) > x141001_1
                 ·
                  rw [if_pos c143] at H
                  have c143b0 : decide (x141001_1 < ((rd_T33 l0_0 x7_1).f1)) = true := decide_eq_true c143
                  clear c143
                  have H' := aM H
                  clear H
                  have hnb144 := NB142_136.out
                  have hnc144 := NB136_142.out
                  have hnb145 := NB142_137.out
                  have hnc145 := NB137_142.out
                  have hnb146 := NB142_138.out
                  have hnc146 := NB138_142.out
                  have hnb147 := NB142_139.out
                  have hnc147 := NB139_142.out
                  have hnb148 := NB142_140.out
                  have hnc148 := NB140_142.out
                  have hcz149_0 : wc.cell? ⟨gb142, 0, none⟩ = some (.int .i64 ((rd_T33 l0_0 x7_1).f0)) := (blk_cell BK142.out 0).trans rfl
                  have hcz149_1 : wc.cell? ⟨gb142, 1, none⟩ = some (.int .i64 ((rd_T33 l0_0 x7_1).f1)) := (blk_cell BK142.out 1).trans rfl
                  have hcz149_2 : wc.cell? ⟨gb142, 2, none⟩ = some (.bool ((rd_T33 l0_0 x7_1).f2)) := (blk_cell BK142.out 2).trans rfl
                  have hfz149_0 := blk_frozen BK142.out 0
                  have hfz149_1 := blk_frozen BK142.out 1
                  have hfz149_2 := blk_frozen BK142.out 2
                  have hnb150 := NB140_136.out
                  have hnc150 := NB136_140.out
                  have hnb151 := NB140_137.out
                  have hnc151 := NB137_140.out
                  have hnb152 := NB140_138.out
                  have hnc152 := NB138_140.out
                  have hnb153 := NB140_139.out
                  have hnc153 := NB139_140.out
                  have hcz154_0 : wc.cell? ⟨gb140, 0, none⟩ = some (.int .i64 x141000_1) := (blk_cell BK140.out 0).trans rfl
                  have hcz154_1 : wc.cell? ⟨gb140, 1, none⟩ = some (.int .i64 x141001_1) := (blk_cell BK140.out 1).trans rfl
                  have hcz154_2 : wc.cell? ⟨gb140, 2, none⟩ = some (.bool false) := (blk_cell BK140.out 2).trans rfl
                  have hfz154_0 := blk_frozen BK140.out 0
                  have hfz154_1 := blk_frozen BK140.out 1
                  have hfz154_2 := blk_frozen BK140.out 2
                  go_wp2
                  go_roundg kj81
                  case measure => have := HK1.out; have := HJ17.out; have := HJ42.out; have := HJ55.out; have := HJ68.out; have := HJ81.out; omega
                  case rel => exact ⟨(wrap64 (x7_1 + 1)), (x140000_42), (x140001_68), (x141000_1), (((rd_T33 l0_0 x7_1).f1)), (by first | rfl | (simp; done) | (simp [*]; done)), H', ⟨by have := HK1.out; have := HJ17.out; have := HJ42.out; have := HJ55.out; have := HJ68.out; have := HJ81.out; omega⟩, ⟨by (with_reducible repeat (first | refine kN ?_ _ | refine kD ?_ | refine kA ?_ _)); refine blk_far ?_ NB136_140.out _; (with_reducible repeat (first | refine kN ?_ _ | refine kD ?_ | refine kA ?_ _)); exact BK136.out⟩, ⟨by (with_reducible repeat (first | refine kN ?_ _ | refine kD ?_ | refine kA ?_ _)); refine blk_far ?_ NB137_140.out _; (with_reducible repeat (first | refine kN ?_ _ | refine kD ?_ | refine kA ?_ _)); exact BK137.out⟩, ⟨by (with_reducible repeat (first | refine kN ?_ _ | refine kD ?_ | refine kA ?_ _)); refine blk_far ?_ NB138_140.out _; (with_reducible repeat (first | refine kN ?_ _ | refine kD ?_ | refine kA ?_ _)); exact BK138.out⟩, ⟨by (with_reducible repeat (first | refine kN ?_ _ | refine kD ?_ | refine kA ?_ _)); refine blk_far ?_ NB139_140.out _; (with_reducible repeat (first | refine kN ?_ _ | refine kD ?_ | refine kA ?_ _)); exact BK139.out⟩, ⟨by (with_reducible repeat (first | refine kN ?_ _ | refine kD ?_ | refine kA ?_ _)); refine blk_put (cs := #[.int .i64 x141000_1, .int .i64 x141001_1, .bool false]) ?_ 1 _ rfl; (with_reducible repeat (first | refine kN ?_ _ | refine kD ?_ | refine kA ?_ _)); exact BK140.out⟩, ⟨by repeat (first | (with_reducible first | exact HB.out | apply bA | apply bN | apply bD | refine bS ?_ GE136.out | refine bS ?_ GE137.out | refine bS ?_ GE138.out | refine bS ?_ GE139.out | refine bS ?_ GE140.out | refine bS ?_ GE142.out) | exact HB.out)⟩⟩
                 ·
                  rw [if_neg c143] at H
                  have c143b0 : decide (x141001_1 < ((rd_T33 l0_0 x7_1).f1)) = false := decide_eq_false c143
                  clear c143
                  have H' := aM H
                  clear H
                  have hnb155 := NB142_136.out
                  have hnc155 := NB136_142.out
                  have hnb156 := NB142_137.out
                  have hnc156 := NB137_142.out
                  have hnb157 := NB142_138.out
                  have hnc157 := NB138_142.out
                  have hnb158 := NB142_139.out
                  have hnc158 := NB139_142.out
                  have hnb159 := NB142_140.out
                  have hnc159 := NB140_142.out
                  have hcz160_0 : wc.cell? ⟨gb142, 0, none⟩ = some (.int .i64 ((rd_T33 l0_0 x7_1).f0)) := (blk_cell BK142.out 0).trans rfl
                  have hcz160_1 : wc.cell? ⟨gb142, 1, none⟩ = some (.int .i64 ((rd_T33 l0_0 x7_1).f1)) := (blk_cell BK142.out 1).trans rfl
                  have hcz160_2 : wc.cell? ⟨gb142, 2, none⟩ = some (.bool ((rd_T33 l0_0 x7_1).f2)) := (blk_cell BK142.out 2).trans rfl
                  have hfz160_0 := blk_frozen BK142.out 0
                  have hfz160_1 := blk_frozen BK142.out 1
                  have hfz160_2 := blk_frozen BK142.out 2
                  have hnb161 := NB140_136.out
                  have hnc161 := NB136_140.out
                  have hnb162 := NB140_137.out
                  have hnc162 := NB137_140.out
                  have hnb163 := NB140_138.out
                  have hnc163 := NB138_140.out
                  have hnb164 := NB140_139.out
                  have hnc164 := NB139_140.out
                  have hcz165_0 : wc.cell? ⟨gb140, 0, none⟩ = some (.int .i64 x141000_1) := (blk_cell BK140.out 0).trans rfl
                  have hcz165_1 : wc.cell? ⟨gb140, 1, none⟩ = some (.int .i64 x141001_1) := (blk_cell BK140.out 1).trans rfl
                  have hcz165_2 : wc.cell? ⟨gb140, 2, none⟩ = some (.bool false) := (blk_cell BK140.out 2).trans rfl
                  have hfz165_0 := blk_frozen BK140.out 0
                  have hfz165_1 := blk_frozen BK140.out 1
                  have hfz165_2 := blk_frozen BK140.out 2
                  go_wp2
                  go_roundg kj81
                  case measure => have := HK1.out; have := HJ17.out; have := HJ42.out; have := HJ55.out; have := HJ68.out; have := HJ81.out; omega
                  case rel => exact ⟨(wrap64 (x7_1 + 1)), (x140000_42), (x140001_68), (x141000_1), (x141001_1), (by first | rfl | (simp; done) | (simp [*]; done)), H', ⟨by have := HK1.out; have := HJ17.out; have := HJ42.out; have := HJ55.out; have := HJ68.out; have := HJ81.out; omega⟩, ⟨by (with_reducible repeat (first | refine kN ?_ _ | refine kD ?_ | refine kA ?_ _)); exact BK136.out⟩, ⟨by (with_reducible repeat (first | refine kN ?_ _ | refine kD ?_ | refine kA ?_ _)); exact BK137.out⟩, ⟨by (with_reducible repeat (first | refine kN ?_ _ | refine kD ?_ | refine kA ?_ _)); exact BK138.out⟩, ⟨by (with_reducible repeat (first | refine kN ?_ _ | refine kD ?_ | refine kA ?_ _)); exact BK139.out⟩, ⟨by (with_reducible repeat (first | refine kN ?_ _ | refine kD ?_ | refine kA ?_ _)); exact BK140.out⟩, ⟨by repeat (first | (with_reducible first | exact HB.out | apply bA | apply bN | apply bD | refine bS ?_ GE136.out | refine bS ?_ GE137.out | refine bS ?_ GE138.out | refine bS ?_ GE139.out | refine bS ?_ GE140.out | refine bS ?_ GE142.out) | exact HB.out)⟩⟩
    ·
     rw [if_neg c17] at H
     exact absurd H (by simp)
   ·
    rw [if_neg c16] at H
    have c16b0 : decide (x7_1 < (l0_0.length : Int)) = false := decide_eq_false c16
    clear c16
    simp only [Option.some.injEq, Prod.mk.injEq] at H
    obtain ⟨rfl, rfl, rfl, rfl, rfl, rfl, rfl⟩ := H
    have hnb166 := NB136_137.out
    have hnc166 := NB137_136.out
    have hnb167 := NB136_138.out
    have hnc167 := NB138_136.out
    have hnb168 := NB136_139.out
    have hnc168 := NB139_136.out
    have hnb169 := NB136_140.out
    have hnc169 := NB140_136.out
    have hcz170_0 : wr.cell? ⟨gb136, 0, none⟩ = some (.slice A0_0 l0_0.length c0_0) := (blk_cell BK136.out 0).trans rfl
    have hcz170_1 : wr.cell? ⟨gb136, 1, none⟩ = some (.slice A0_1 l0_1.length c0_1) := (blk_cell BK136.out 1).trans rfl
    have hfz170_0 := blk_frozen BK136.out 0
    have hfz170_1 := blk_frozen BK136.out 1
    try go_wp2
    have n0_ := aM (kD BK136.out)
    have n1_ := aM (kD BK137.out)
    have n2_ := aM (kD BK138.out)
    have n3_ := aM (kD BK139.out)
    have n4_ := aM (kD BK140.out)
    have n5_ := aM (bD HB.out)
    clear BK136
    clear BK137
    clear BK138
    clear BK139
    clear BK140
    clear HB
    have BK136 := n0_
    have BK137 := n1_
    have BK138 := n2_
    have BK139 := n3_
    have BK140 := n4_
    have HB := n5_
    clear n0_ n1_ n2_ n3_ n4_ n5_
    refine start_ (n := 9) (S := fun w' => w'.cell? ⟨gb139, 0, none⟩ = some (.int .i64 x140000_1) ∧ w'.cell? ⟨gb139, 1, none⟩ = some (.int .i64 x140001_1) ∧ w'.cell? ⟨gb139, 2, none⟩ = some (.bool false) ∧ w'.cell? ⟨gb140, 0, none⟩ = some (.int .i64 x141000_1) ∧ w'.cell? ⟨gb140, 1, none⟩ = some (.int .i64 x141001_1) ∧ w'.cell? ⟨gb140, 2, none⟩ = some (.bool false) ∧ w'.cell? ⟨gb136, 0, none⟩ = some (.slice A0_0 l0_0.length c0_0) ∧ w'.cell? ⟨gb136, 1, none⟩ = some (.slice A0_1 l0_1.length c0_1)) (ds := []) #[false, false, false, false, false, false, false, false, false] (by kernel_rfl) rfl rfl ⟨(blk_cell BK139.out 0).trans rfl, (blk_cell BK139.out 1).trans rfl, (blk_cell BK139.out 2).trans rfl, (blk_cell BK140.out 0).trans rfl, (blk_cell BK140.out 1).trans rfl, (blk_cell BK140.out 2).trans rfl, (blk_cell BK136.out 0).trans rfl, (blk_cell BK136.out 1).trans rfl⟩ (fun hHeld => ?_); refine with_tabW fleuronref03_Box.tab15 fleuronref03_Box.bits15 (fun HT_ HW_ => ?_)
    generalize wr.drew = w171 at BK136 BK137 BK138 BK139 BK140 HB hHeld ⊢
    refine pure_ (i := 2) (N := some 73) (v := ?_) (a' := ?_) #[false, false, true, false, false, false, false, false, false] rfl rfl (any_of HT_.out (by kernel_rfl)) (fun _ _ _ h => h) (Or.inl ⟨by rfl, ?_⟩) ?_ ?_
    rotate_left
    ·
     intro w'
     go_simp
     with_reducible rfl
    rotate_left
    ·
     simp only [Act.put, List.setIfInBounds_toArray, List.set_cons_zero, List.set_cons_succ, i64_w, i32_w]
     rfl
    refine take_ (i := 0) (N := some 71) (v := ?_) (a' := ?_) #[true, false, true, false, false, false, false, false, false] rfl rfl (take_ofW HT_.out HW_.out (by kernel_rfl)) (fun _ _ _ h => h) (Or.inl ⟨by rfl, ?_⟩) hHeld ?_ ?_
    rotate_left
    ·
     rintro w' ⟨s0, s1, s2, s3, s4, s5, s6, s7⟩
     go_simp
     with_reducible rfl
    rotate_left
    ·
     simp only [Act.put, List.setIfInBounds_toArray, List.set_cons_zero, List.set_cons_succ, i64_w, i32_w]
     rfl
    refine take_ (i := 1) (N := some 72) (v := ?_) (a' := ?_) #[true, true, true, false, false, false, false, false, false] rfl rfl (take_ofW HT_.out HW_.out (by kernel_rfl)) (fun _ _ _ h => h) (Or.inl ⟨by rfl, ?_⟩) hHeld ?_ ?_
    rotate_left
    ·
     rintro w' ⟨s0, s1, s2, s3, s4, s5, s6, s7⟩
     go_simp
     with_reducible rfl
    rotate_left
    ·
     simp only [Act.put, List.setIfInBounds_toArray, List.set_cons_zero, List.set_cons_succ, i64_w, i32_w]
     rfl
    refine take_ (i := 3) (N := some 74) (v := ?_) (a' := ?_) #[true, true, true, true, false, false, false, false, false] rfl rfl (take_ofW HT_.out HW_.out (by kernel_rfl)) (fun _ _ _ h => h) (Or.inl ⟨by rfl, ?_⟩) hHeld ?_ ?_
    rotate_left
    ·
     rintro w' ⟨s0, s1, s2, s3, s4, s5, s6, s7⟩
     go_simp
     with_reducible rfl
    rotate_left
    ·
     simp only [Act.put, List.setIfInBounds_toArray, List.set_cons_zero, List.set_cons_succ, i64_w, i32_w]
     rfl
    refine pure_ (i := 4) (N := some 75) (v := ?_) (a' := ?_) #[true, true, true, true, true, false, false, false, false] rfl rfl (any_of HT_.out (by kernel_rfl)) (fun _ _ _ h => h) (Or.inl ⟨by rfl, ?_⟩) ?_ ?_
    rotate_left
    ·
     intro w'
     go_simp
     with_reducible rfl
    rotate_left
    ·
     simp only [Act.put, List.setIfInBounds_toArray, List.set_cons_zero, List.set_cons_succ, i64_w, i32_w]
     rfl
    refine pure_ (i := 5) (N := some 76) (v := ?_) (a' := ?_) #[true, true, true, true, true, true, false, false, false] rfl rfl (any_of HT_.out (by kernel_rfl)) (fun _ _ _ h => h) (Or.inl ⟨by rfl, ?_⟩) ?_ ?_
    rotate_left
    ·
     intro w'
     go_simp
     with_reducible rfl
    rotate_left
    ·
     simp only [Act.put, List.setIfInBounds_toArray, List.set_cons_zero, List.set_cons_succ, i64_w, i32_w]
     rfl
    refine one_ (i := 6) (N := none) #[true, true, true, true, true, true, true, false, false] rfl rfl (one_of HT_.out (by kernel_rfl)) (by decide) (fun K hK => ?_)
    have hs172 : w171.cell? ⟨gb137, 0, none⟩ = some (.int .i64 0) := (blk_cell BK137.out 0).trans rfl
    have hfs172 := blk_frozen BK137.out 0
    have hns172_0 := NB136_137.out
    have hns172_2 := NB138_137.out
    have hns172_3 := NB139_137.out
    have hns172_4 := NB140_137.out
    have hms172_0 := NB137_136.out
    have hms172_2 := NB137_138.out
    have hms172_3 := NB137_139.out
    have hms172_4 := NB137_140.out
    have hs173 : w171.cell? ⟨gb137, 1, none⟩ = some (.int .i64 0) := (blk_cell BK137.out 1).trans rfl
    have hfs173 := blk_frozen BK137.out 1
    have hns173_0 := NB136_137.out
    have hns173_2 := NB138_137.out
    have hns173_3 := NB139_137.out
    have hns173_4 := NB140_137.out
    have hms173_0 := NB137_136.out
    have hms173_2 := NB137_138.out
    have hms173_3 := NB137_139.out
    have hms173_4 := NB137_140.out
    have hs174 : w171.cell? ⟨gb137, 2, none⟩ = some (.bool false) := (blk_cell BK137.out 2).trans rfl
    have hfs174 := blk_frozen BK137.out 2
    have hns174_0 := NB136_137.out
    have hns174_2 := NB138_137.out
    have hns174_3 := NB139_137.out
    have hns174_4 := NB140_137.out
    have hms174_0 := NB137_136.out
    have hms174_2 := NB137_138.out
    have hms174_3 := NB137_139.out
    have hms174_4 := NB137_140.out
    refine skip_ (w1 := ?_) (by rfl) rfl ?_ ?_
    rotate_left
    ·
     go_simp
     rfl
    refine hK.out _ _ ⟨((cell_far (p := ⟨gb137, _, none⟩) NB139_137.out _).trans (((cell_far (p := ⟨gb137, _, none⟩) NB139_137.out _).trans (((cell_far (p := ⟨gb137, _, none⟩) NB139_137.out _).trans (hHeld.1)))))), ((cell_far (p := ⟨gb137, _, none⟩) NB139_137.out _).trans (((cell_far (p := ⟨gb137, _, none⟩) NB139_137.out _).trans (((cell_far (p := ⟨gb137, _, none⟩) NB139_137.out _).trans (hHeld.2.1)))))), ((cell_far (p := ⟨gb137, _, none⟩) NB139_137.out _).trans (((cell_far (p := ⟨gb137, _, none⟩) NB139_137.out _).trans (((cell_far (p := ⟨gb137, _, none⟩) NB139_137.out _).trans (hHeld.2.2.1)))))), ((cell_far (p := ⟨gb137, _, none⟩) NB140_137.out _).trans (((cell_far (p := ⟨gb137, _, none⟩) NB140_137.out _).trans (((cell_far (p := ⟨gb137, _, none⟩) NB140_137.out _).trans (hHeld.2.2.2.1)))))), ((cell_far (p := ⟨gb137, _, none⟩) NB140_137.out _).trans (((cell_far (p := ⟨gb137, _, none⟩) NB140_137.out _).trans (((cell_far (p := ⟨gb137, _, none⟩) NB140_137.out _).trans (hHeld.2.2.2.2.1)))))), ((cell_far (p := ⟨gb137, _, none⟩) NB140_137.out _).trans (((cell_far (p := ⟨gb137, _, none⟩) NB140_137.out _).trans (((cell_far (p := ⟨gb137, _, none⟩) NB140_137.out _).trans (hHeld.2.2.2.2.2.1)))))), ((cell_far (p := ⟨gb137, _, none⟩) NB136_137.out _).trans (((cell_far (p := ⟨gb137, _, none⟩) NB136_137.out _).trans (((cell_far (p := ⟨gb137, _, none⟩) NB136_137.out _).trans (hHeld.2.2.2.2.2.2.1)))))), ((cell_far (p := ⟨gb137, _, none⟩) NB136_137.out _).trans (((cell_far (p := ⟨gb137, _, none⟩) NB136_137.out _).trans (((cell_far (p := ⟨gb137, _, none⟩) NB136_137.out _).trans (hHeld.2.2.2.2.2.2.2))))))⟩ (fun hHeld => ?_)
    clear hK K
    refine one_ (i := 7) (N := none) #[true, true, true, true, true, true, true, true, false] rfl rfl (one_of HT_.out (by kernel_rfl)) (by decide) (fun K hK => ?_)
    have hs175 : w171.cell? ⟨gb138, 0, none⟩ = some (.int .i64 0) := (blk_cell BK138.out 0).trans rfl
    have hfs175 := blk_frozen BK138.out 0
    have hns175_0 := NB136_138.out
    have hns175_1 := NB137_138.out
    have hns175_3 := NB139_138.out
    have hns175_4 := NB140_138.out
    have hms175_0 := NB138_136.out
    have hms175_1 := NB138_137.out
    have hms175_3 := NB138_139.out
    have hms175_4 := NB138_140.out
    have hs176 : w171.cell? ⟨gb138, 1, none⟩ = some (.int .i64 0) := (blk_cell BK138.out 1).trans rfl
    have hfs176 := blk_frozen BK138.out 1
    have hns176_0 := NB136_138.out
    have hns176_1 := NB137_138.out
    have hns176_3 := NB139_138.out
    have hns176_4 := NB140_138.out
    have hms176_0 := NB138_136.out
    have hms176_1 := NB138_137.out
    have hms176_3 := NB138_139.out
    have hms176_4 := NB138_140.out
    have hs177 : w171.cell? ⟨gb138, 2, none⟩ = some (.bool false) := (blk_cell BK138.out 2).trans rfl
    have hfs177 := blk_frozen BK138.out 2
    have hns177_0 := NB136_138.out
    have hns177_1 := NB137_138.out
    have hns177_3 := NB139_138.out
    have hns177_4 := NB140_138.out
    have hms177_0 := NB138_136.out
    have hms177_1 := NB138_137.out
    have hms177_3 := NB138_139.out
    have hms177_4 := NB138_140.out
    refine skip_ (w1 := ?_) (by rfl) rfl ?_ ?_
    rotate_left
    ·
     go_simp
     rfl
    refine hK.out _ _ ⟨((cell_far (p := ⟨gb138, _, none⟩) NB139_138.out _).trans (((cell_far (p := ⟨gb138, _, none⟩) NB139_138.out _).trans (((cell_far (p := ⟨gb138, _, none⟩) NB139_138.out _).trans (hHeld.1)))))), ((cell_far (p := ⟨gb138, _, none⟩) NB139_138.out _).trans (((cell_far (p := ⟨gb138, _, none⟩) NB139_138.out _).trans (((cell_far (p := ⟨gb138, _, none⟩) NB139_138.out _).trans (hHeld.2.1)))))), ((cell_far (p := ⟨gb138, _, none⟩) NB139_138.out _).trans (((cell_far (p := ⟨gb138, _, none⟩) NB139_138.out _).trans (((cell_far (p := ⟨gb138, _, none⟩) NB139_138.out _).trans (hHeld.2.2.1)))))), ((cell_far (p := ⟨gb138, _, none⟩) NB140_138.out _).trans (((cell_far (p := ⟨gb138, _, none⟩) NB140_138.out _).trans (((cell_far (p := ⟨gb138, _, none⟩) NB140_138.out _).trans (hHeld.2.2.2.1)))))), ((cell_far (p := ⟨gb138, _, none⟩) NB140_138.out _).trans (((cell_far (p := ⟨gb138, _, none⟩) NB140_138.out _).trans (((cell_far (p := ⟨gb138, _, none⟩) NB140_138.out _).trans (hHeld.2.2.2.2.1)))))), ((cell_far (p := ⟨gb138, _, none⟩) NB140_138.out _).trans (((cell_far (p := ⟨gb138, _, none⟩) NB140_138.out _).trans (((cell_far (p := ⟨gb138, _, none⟩) NB140_138.out _).trans (hHeld.2.2.2.2.2.1)))))), ((cell_far (p := ⟨gb138, _, none⟩) NB136_138.out _).trans (((cell_far (p := ⟨gb138, _, none⟩) NB136_138.out _).trans (((cell_far (p := ⟨gb138, _, none⟩) NB136_138.out _).trans (hHeld.2.2.2.2.2.2.1)))))), ((cell_far (p := ⟨gb138, _, none⟩) NB136_138.out _).trans (((cell_far (p := ⟨gb138, _, none⟩) NB136_138.out _).trans (((cell_far (p := ⟨gb138, _, none⟩) NB136_138.out _).trans (hHeld.2.2.2.2.2.2.2))))))⟩ (fun hHeld => ?_)
    clear hK K
    refine pure_ (i := 8) (N := some 4) (v := ?_) (a' := ?_) #[true, true, true, true, true, true, true, true, true] rfl rfl (any_of HT_.out (by kernel_rfl)) (fun _ _ _ h => h) (Or.inl ⟨by rfl, ?_⟩) ?_ ?_
    rotate_left
    ·
     intro w'
     go_simp
     with_reducible rfl
    rotate_left
    ·
     simp only [Act.put, List.setIfInBounds_toArray, List.set_cons_zero, List.set_cons_succ, i64_w, i32_w]
     rfl
    refine done_ (done_of HT_.out (by kernel_rfl)) ?_
    try go_wp2
    refine bodyPost_ret (results_list (rs := [.cell 2 33, .cell 3 33, .tmp 4]) rfl (by simp) (.cell gb137 33 #[.int .i64 x140000_1, .int .i64 x140001_1, .bool false] (0, 0) _ rfl (by (with_reducible repeat (first | refine kN ?_ _ | refine kD ?_ | refine kA ?_ _)); refine blk_far ?_ NB137_138.out _; (with_reducible repeat (first | refine kN ?_ _ | refine kD ?_ | refine kA ?_ _)); refine blk_far ?_ NB137_138.out _; (with_reducible repeat (first | refine kN ?_ _ | refine kD ?_ | refine kA ?_ _)); refine blk_far ?_ NB137_138.out _; (with_reducible repeat (first | refine kN ?_ _ | refine kD ?_ | refine kA ?_ _)); refine blk_put (cs := #[.int .i64 x140000_1, .int .i64 x140001_1, .bool false]) ?_ 2 _ rfl; (with_reducible repeat (first | refine kN ?_ _ | refine kD ?_ | refine kA ?_ _)); refine blk_put (cs := #[.int .i64 x140000_1, .int .i64 0, .bool false]) ?_ 1 _ rfl; (with_reducible repeat (first | refine kN ?_ _ | refine kD ?_ | refine kA ?_ _)); refine blk_put (cs := #[.int .i64 0, .int .i64 0, .bool false]) ?_ 0 _ rfl; (with_reducible repeat (first | refine kN ?_ _ | refine kD ?_ | refine kA ?_ _)); exact BK137.out) Try.underlying33 rfl (by kernel_rfl) (.cell gb138 33 #[.int .i64 x141000_1, .int .i64 x141001_1, .bool false] (0, 0) _ rfl (by (with_reducible repeat (first | refine kN ?_ _ | refine kD ?_ | refine kA ?_ _)); refine blk_put (cs := #[.int .i64 x141000_1, .int .i64 x141001_1, .bool false]) ?_ 2 _ rfl; (with_reducible repeat (first | refine kN ?_ _ | refine kD ?_ | refine kA ?_ _)); refine blk_put (cs := #[.int .i64 x141000_1, .int .i64 0, .bool false]) ?_ 1 _ rfl; (with_reducible repeat (first | refine kN ?_ _ | refine kD ?_ | refine kA ?_ _)); refine blk_put (cs := #[.int .i64 0, .int .i64 0, .bool false]) ?_ 0 _ rfl; (with_reducible repeat (first | refine kN ?_ _ | refine kD ?_ | refine kA ?_ _)); refine blk_far ?_ NB138_137.out _; (with_reducible repeat (first | refine kN ?_ _ | refine kD ?_ | refine kA ?_ _)); refine blk_far ?_ NB138_137.out _; (with_reducible repeat (first | refine kN ?_ _ | refine kD ?_ | refine kA ?_ _)); refine blk_far ?_ NB138_137.out _; (with_reducible repeat (first | refine kN ?_ _ | refine kD ?_ | refine kA ?_ _)); exact BK138.out) Try.underlying33 rfl (by kernel_rfl) (.tmp .nil)))) rfl ?_
    exact ⟨by first | rfl | (simp [errW_none, errW_some] <;> rfl) | (simp [*, errW_none, errW_some] <;> rfl), by repeat (first | (with_reducible first | exact HB.out | apply bA | apply bN | apply bD | refine bS ?_ GE136.out | refine bS ?_ GE137.out | refine bS ?_ GE138.out | refine bS ?_ GE139.out | refine bS ?_ GE140.out) | exact HB.out)⟩
end Go.Proofs.Ytbmklpcheopgoaa.H
