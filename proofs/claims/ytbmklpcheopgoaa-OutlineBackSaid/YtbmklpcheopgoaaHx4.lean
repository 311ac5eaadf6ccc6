/- What the Go functions of this seat compute, as Lean functions, each with the proof that the call answers so; made by a program of this session. -/
import Derived.Test.YtbmklpcheopgoaaHx0
import Derived.WalkKit
import Derived.Lib.Hide
import Derived.WalkSpells
import Derived.Test.YtbmklpcheopgoaaOps
import Derived.Test.YtbmklpcheopgoaaBlks
import Derived.Test.YtbmklpcheopgoaaRegInv
namespace Go.Proofs.Ytbmklpcheopgoaa.H
open Go.RowKit Go.Proofs.YtbmklpcheopgoaaW.PrintWords Go.Proofs.YtbmklpcheopgoaaW.PrintLast Go.Proofs.YtbmklpcheopgoaaW.PrintMore
attribute [local go_sem] max2_int min2_int max_two min_two max_three min_three max_four min_four   -- for this text's walks alone
set_option linter.unusedVariables false
set_option linter.unusedSimpArgs false

/-! ### outline_Box: function 19 -/
open Go.Proofs.YtbmklpcheopgoaaOps Go.Proofs.YtbmklpcheopgoaaBlks Go.Proofs.YtbmklpcheopgoaaIt
attribute [local go_sem] World.cell?_alloc_some
def boxStep (st : S33 × S33) (i : Nat) (p : S33) : S33 × S33 :=
  let st : S33 × S33 := if i = 0 then (⟨p.f0, p.f1, false⟩, ⟨p.f0, p.f1, false⟩) else st
  (⟨min st.1.f0 p.f0, min st.1.f1 p.f1, st.1.f2⟩, ⟨max st.2.f0 p.f0, max st.2.f1 p.f1, st.2.f2⟩)
def boxSt (pts : List S33) (k : Nat) : S33 × S33 := (List.range k).foldl (fun st i => boxStep st i (rd_T33 pts i)) (z33, z33)
theorem boxSt_succ (pts : List S33) (k : Nat) : boxSt pts (k + 1) = boxStep (boxSt pts k) k (rd_T33 pts k) := by simp [boxSt, List.range_succ]
def boxPt (p : S33) : Obj := .cells #[.int .i64 p.f0, .int .i64 p.f1, .bool p.f2] 33 (0, 0)

set_option maxRecDepth 100000 in
set_option maxHeartbeats 4000000 in
theorem box_calls (A0 : Option Addr) (c0 : Nat) (pts : List S33) (v1 : Value) (w : World) (hr0 : Kd.C k33 w A0 pts.length pts) (hc0 : pts.length ≤ c0) :
    Calls Try.prog 19 #[.agg #[.slice A0 pts.length c0, v1]] w fun e w' => e = .returned (.tuple #[.agg #[.int .i64 (boxSt pts pts.length).1.f0, .int .i64 (boxSt pts pts.length).1.f1, .bool (boxSt pts pts.length).1.f2], .agg #[.int .i64 (boxSt pts pts.length).2.f0, .int .i64 (boxSt pts pts.length).2.f1, .bool (boxSt pts pts.length).2.f2], .bool (decide (0 < pts.length))]) ∧ Below w.heap.size w w' := by
  have hu := Try.underlying33
  have hu2 := Try.underlying25
  have hmx := Kd.C_max hr0
  have HR0 := Aside0.mk hr0
  clear hr0
  go_enter Try.func19, Try.ntmps19
  go_wp2
  go_loopw [5, 6, 10] (fun _ _ v10 wr => ∃ i : Nat, i ≤ pts.length ∧ v10 = .int .i64 i ∧ Aside0 (Blks [(w.heap.size + 1 + 1, boxPt (boxSt pts i).2), (w.heap.size + 1, boxPt (boxSt pts i).1), (w.heap.size, .cells #[.slice A0 pts.length c0, v1] 25 (0, 0))] wr ∧ Below w.heap.size w wr))
    (fun _ _ v10 _ => pts.length - (intOf v10).toNat)
  case atStart => exact ⟨0, by omega, rfl, ⟨(((Blks.nil w).alloc _).alloc_at _ (by simp)).alloc_at _ (by simp), ((((Below.refl _ _).alloc (Nat.le_refl _) _).alloc (by simp) _).alloc (by simp; omega) _)⟩⟩
  case round =>
    obtain ⟨i, hi, rfl, ⟨HB, HW⟩⟩ := hrel
    have hlt2 := Lib.hid HB.lt
    by_cases hlt : i < pts.length
    · obtain ⟨ad0, e0, hx0, hx1, hx2⟩ := at_T33 HR0.out (i : Int) (by omega) (by omega)
      cases e0
      replace hx0 := (HW.cell (World.block_lt_of_cell? w _ hx0)).trans hx0
      replace hx1 := (HW.cell (World.block_lt_of_cell? w _ hx1)).trans hx1
      replace hx2 := (HW.cell (World.block_lt_of_cell? w _ hx2)).trans hx2
      simp only [Int.toNat_natCast] at hx0 hx1 hx2
      have hsz : w.heap.size + 1 + 1 < wr.heap.size := hlt2.out _ (by simp)
      have HS := Lib.hid hsz
      clear hlt2 hsz
      by_cases hz : i = 0
      · have hz' : ((i : Int) == 0) = true := by simpa using hz
        have HZ := Lib.hid hz
        clear hz
        go_wp2
        replace HB := (HB.alloc (.cells #[.int .i64 (rd_T33 pts i).f0, .int .i64 (rd_T33 pts i).f1, .bool (rd_T33 pts i).f2] 33))
        replace HW := (HW.alloc HW.size (.cells #[.int .i64 (rd_T33 pts i).f0, .int .i64 (rd_T33 pts i).f1, .bool (rd_T33 pts i).f2] 33))
        refine Go.Proofs.YtbmklpcheopgoaaReg.reg_inv (by rfl) [0, 1, 2, 3, 4, 5, 6, 7, 8, 9, 10, 11] (by kernel_rfl) (by kernel_rfl)
          (fun lst a W' => ∃ (b0 b1 b2 b3 b4 b5 b6 b7 b8 b9 b10 b11 : Bool), lst = #[b0, b1, b2, b3, b4, b5, b6, b7, b8, b9, b10, b11] ∧ a = ⟨#[.agg #[.slice (some ad0) pts.length c0, v1], .pointer (some ⟨w.heap.size, 0, none⟩), .pointer (some ⟨(w.heap.size + 1), 0, none⟩), .pointer (some ⟨(w.heap.size + 1 + 1), 0, none⟩), .bool false, .int .i64 i, .pointer (some ⟨wr.heap.size, 0, none⟩), .pointer (some ⟨w.heap.size, 0, none⟩), .slice (some ad0) pts.length c0, .int .i64 pts.length, .int .i64 i, .bool true, .int .i64 i, .pointer (some (ad0.add (i * 3))), .agg #[.int .i64 (rd_T33 pts i).f0, .int .i64 (rd_T33 pts i).f1, .bool (rd_T33 pts i).f2], .int .i64 i, .bool true, (cond b0 (.pointer (some ⟨wr.heap.size, 0, none⟩)) u17), (cond b1 (.int .i64 ((rd_T33 pts i).f0)) u18), (cond b2 (.pointer (some ⟨wr.heap.size, 1, none⟩)) u19), (cond b3 (.int .i64 ((rd_T33 pts i).f1)) u20), (cond b4 (.agg #[.int .i64 ((rd_T33 pts i).f0), .int .i64 ((rd_T33 pts i).f1), .bool false]) u21), (cond b5 (.pointer (some ⟨wr.heap.size, 0, none⟩)) u22), (cond b6 (.int .i64 ((rd_T33 pts i).f0)) u23), (cond b7 (.pointer (some ⟨wr.heap.size, 1, none⟩)) u24), (cond b8 (.int .i64 ((rd_T33 pts i).f1)) u25), (cond b9 (.agg #[.int .i64 ((rd_T33 pts i).f0), .int .i64 ((rd_T33 pts i).f1), .bool false]) u26), u27, u28, u29, u30, u31, u32, u33, u34, u35, u36, u37, u38, u39, u40, u41, u42, u43, u44, u45, u46, u47, u48, u49, u50, u51, undef, undef, undef, undef, undef, undef], []⟩ ∧ (Blks [(wr.heap.size, .cells #[.int .i64 ((rd_T33 pts i).f0), .int .i64 ((rd_T33 pts i).f1), .bool (rd_T33 pts i).f2] 33 (0, 0)), ((w.heap.size + 1 + 1), .cells #[cond b11 (.int .i64 ((rd_T33 pts i).f0)) (.int .i64 (boxSt pts i).2.f0), cond b11 (.int .i64 ((rd_T33 pts i).f1)) (.int .i64 (boxSt pts i).2.f1), cond b11 (.bool false) (.bool (boxSt pts i).2.f2)] 33 (0, 0)), ((w.heap.size + 1), .cells #[cond b10 (.int .i64 ((rd_T33 pts i).f0)) (.int .i64 (boxSt pts i).1.f0), cond b10 (.int .i64 ((rd_T33 pts i).f1)) (.int .i64 (boxSt pts i).1.f1), cond b10 (.bool false) (.bool (boxSt pts i).1.f2)] 33 (0, 0)), (w.heap.size, .cells #[.slice (some ad0) pts.length c0, v1] 25 (0, 0))] W') ∧ (Below w.heap.size w W')) ?_ ?_ ?_ ?_
        · rintro lst a W' ⟨b0, b1, b2, b3, b4, b5, b6, b7, b8, b9, b10, b11, rfl, _⟩
          rfl
        · exact ⟨false, false, false, false, false, false, false, false, false, false, false, false, rfl, rfl, HB.drew, below_drew HW⟩
        · rintro lst a W' i o ⟨b0, b1, b2, b3, b4, b5, b6, b7, b8, b9, b10, b11, rfl, rfl, hHB, hHW⟩ ho hf hd K hK
          have hi : i < 12 := (Array.getElem?_eq_some_iff.1 ho).1
          have ho2 := ho
          rcases (show i = 0 ∨ i = 1 ∨ i = 2 ∨ i = 3 ∨ i = 4 ∨ i = 5 ∨ i = 6 ∨ i = 7 ∨ i = 8 ∨ i = 9 ∨ i = 10 ∨ i = 11 by omega) with rfl | rfl | rfl | rfl | rfl | rfl | rfl | rfl | rfl | rfl | rfl | rfl
          · simp only [List.getElem?_toArray, List.getElem?_cons_succ, List.getElem?_cons_zero, Option.some.injEq] at ho
            subst ho
            replace hf : b0 = false := hf
            subst hf
            refine Go.Proofs.YtbmklpcheopgoaaReg.op_val ho2 rfl (v := .pointer (some ⟨wr.heap.size, 0, none⟩)) (w1 := W') ?_ (hK _ _ ⟨true, b1, b2, b3, b4, b5, b6, b7, b8, b9, b10, b11, rfl, rfl, hHB, hHW⟩)
            simp [go_sem, hu]
          · simp only [List.getElem?_toArray, List.getElem?_cons_succ, List.getElem?_cons_zero, Option.some.injEq] at ho
            subst ho
            replace hf : b1 = false := hf
            have d0 : b0 = true := hd ⟨0, .data⟩ (by simp) rfl
            subst d0
            subst hf
            refine Go.Proofs.YtbmklpcheopgoaaReg.op_val ho2 rfl (v := .int .i64 ((rd_T33 pts i).f0)) (w1 := W') ?_ (hK _ _ ⟨true, true, b2, b3, b4, b5, b6, b7, b8, b9, b10, b11, rfl, rfl, hHB, hHW⟩)
            simp [go_sem, hu, (Blks.cell hHB 0 rfl 0)]
          · simp only [List.getElem?_toArray, List.getElem?_cons_succ, List.getElem?_cons_zero, Option.some.injEq] at ho
            subst ho
            replace hf : b2 = false := hf
            subst hf
            refine Go.Proofs.YtbmklpcheopgoaaReg.op_val ho2 rfl (v := .pointer (some ⟨wr.heap.size, 1, none⟩)) (w1 := W') ?_ (hK _ _ ⟨b0, b1, true, b3, b4, b5, b6, b7, b8, b9, b10, b11, rfl, rfl, hHB, hHW⟩)
            simp [go_sem, hu]
          · simp only [List.getElem?_toArray, List.getElem?_cons_succ, List.getElem?_cons_zero, Option.some.injEq] at ho
            subst ho
            replace hf : b3 = false := hf
            have d2 : b2 = true := hd ⟨2, .data⟩ (by simp) rfl
            subst d2
            subst hf
            refine Go.Proofs.YtbmklpcheopgoaaReg.op_val ho2 rfl (v := .int .i64 ((rd_T33 pts i).f1)) (w1 := W') ?_ (hK _ _ ⟨b0, b1, true, true, b4, b5, b6, b7, b8, b9, b10, b11, rfl, rfl, hHB, hHW⟩)
            simp [go_sem, hu, (Blks.cell hHB 0 rfl 1)]
          · simp only [List.getElem?_toArray, List.getElem?_cons_succ, List.getElem?_cons_zero, Option.some.injEq] at ho
            subst ho
            replace hf : b4 = false := hf
            have d1 : b1 = true := hd ⟨1, .data⟩ (by simp) rfl
            have d3 : b3 = true := hd ⟨3, .data⟩ (by simp) rfl
            subst d1
            subst d3
            subst hf
            refine Go.Proofs.YtbmklpcheopgoaaReg.op_val ho2 rfl (v := .agg #[.int .i64 ((rd_T33 pts i).f0), .int .i64 ((rd_T33 pts i).f1), .bool false]) (w1 := W') ?_ (hK _ _ ⟨b0, true, b2, true, true, b5, b6, b7, b8, b9, b10, b11, rfl, rfl, hHB, hHW⟩)
            simp [go_sem, hu]
          · simp only [List.getElem?_toArray, List.getElem?_cons_succ, List.getElem?_cons_zero, Option.some.injEq] at ho
            subst ho
            replace hf : b5 = false := hf
            subst hf
            refine Go.Proofs.YtbmklpcheopgoaaReg.op_val ho2 rfl (v := .pointer (some ⟨wr.heap.size, 0, none⟩)) (w1 := W') ?_ (hK _ _ ⟨b0, b1, b2, b3, b4, true, b6, b7, b8, b9, b10, b11, rfl, rfl, hHB, hHW⟩)
            simp [go_sem, hu]
          · simp only [List.getElem?_toArray, List.getElem?_cons_succ, List.getElem?_cons_zero, Option.some.injEq] at ho
            subst ho
            replace hf : b6 = false := hf
            have d5 : b5 = true := hd ⟨5, .data⟩ (by simp) rfl
            subst d5
            subst hf
            refine Go.Proofs.YtbmklpcheopgoaaReg.op_val ho2 rfl (v := .int .i64 ((rd_T33 pts i).f0)) (w1 := W') ?_ (hK _ _ ⟨b0, b1, b2, b3, b4, true, true, b7, b8, b9, b10, b11, rfl, rfl, hHB, hHW⟩)
            simp [go_sem, hu, (Blks.cell hHB 0 rfl 0)]
          · simp only [List.getElem?_toArray, List.getElem?_cons_succ, List.getElem?_cons_zero, Option.some.injEq] at ho
            subst ho
            replace hf : b7 = false := hf
            subst hf
            refine Go.Proofs.YtbmklpcheopgoaaReg.op_val ho2 rfl (v := .pointer (some ⟨wr.heap.size, 1, none⟩)) (w1 := W') ?_ (hK _ _ ⟨b0, b1, b2, b3, b4, b5, b6, true, b8, b9, b10, b11, rfl, rfl, hHB, hHW⟩)
            simp [go_sem, hu]
          · simp only [List.getElem?_toArray, List.getElem?_cons_succ, List.getElem?_cons_zero, Option.some.injEq] at ho
            subst ho
            replace hf : b8 = false := hf
            have d7 : b7 = true := hd ⟨7, .data⟩ (by simp) rfl
            subst d7
            subst hf
            refine Go.Proofs.YtbmklpcheopgoaaReg.op_val ho2 rfl (v := .int .i64 ((rd_T33 pts i).f1)) (w1 := W') ?_ (hK _ _ ⟨b0, b1, b2, b3, b4, b5, b6, true, true, b9, b10, b11, rfl, rfl, hHB, hHW⟩)
            simp [go_sem, hu, (Blks.cell hHB 0 rfl 1)]
          · simp only [List.getElem?_toArray, List.getElem?_cons_succ, List.getElem?_cons_zero, Option.some.injEq] at ho
            subst ho
            replace hf : b9 = false := hf
            have d6 : b6 = true := hd ⟨6, .data⟩ (by simp) rfl
            have d8 : b8 = true := hd ⟨8, .data⟩ (by simp) rfl
            subst d6
            subst d8
            subst hf
            refine Go.Proofs.YtbmklpcheopgoaaReg.op_val ho2 rfl (v := .agg #[.int .i64 ((rd_T33 pts i).f0), .int .i64 ((rd_T33 pts i).f1), .bool false]) (w1 := W') ?_ (hK _ _ ⟨b0, b1, b2, b3, b4, b5, true, b7, true, true, b10, b11, rfl, rfl, hHB, hHW⟩)
            simp [go_sem, hu]
          · simp only [List.getElem?_toArray, List.getElem?_cons_succ, List.getElem?_cons_zero, Option.some.injEq] at ho
            subst ho
            replace hf : b10 = false := hf
            have d0 : b0 = true := hd ⟨0, .phase⟩ (by simp) rfl
            have d1 : b1 = true := hd ⟨1, .phase⟩ (by simp) rfl
            have d2 : b2 = true := hd ⟨2, .phase⟩ (by simp) rfl
            have d3 : b3 = true := hd ⟨3, .phase⟩ (by simp) rfl
            have d4 : b4 = true := hd ⟨4, .data⟩ (by simp) rfl
            subst d0
            subst d1
            subst d2
            subst d3
            subst d4
            subst hf
            refine Go.Proofs.YtbmklpcheopgoaaReg.op_skip ho2 rfl (w1 := (((W'.setCell ⟨(w.heap.size + 1), 0, none⟩ (.int .i64 ((rd_T33 pts i).f0))).setCell ⟨(w.heap.size + 1), 1, none⟩ (.int .i64 ((rd_T33 pts i).f1))).setCell ⟨(w.heap.size + 1), 2, none⟩ (.bool false))) ?_ (hK _ _ ⟨true, true, true, true, true, b5, b6, b7, b8, b9, true, b11, rfl, rfl, (Blks.set (Blks.set (Blks.set hHB 2 rfl 0 (.int .i64 ((rd_T33 pts i).f0))) 2 rfl 1 (.int .i64 ((rd_T33 pts i).f1))) 2 rfl 2 (.bool false)), (Below.setCell (Below.setCell (Below.setCell hHW (by dsimp only; omega) (.int .i64 ((rd_T33 pts i).f0))) (by dsimp only; omega) (.int .i64 ((rd_T33 pts i).f1))) (by dsimp only; omega) (.bool false))⟩)
            simp [go_sem, hu, (Blks.cell hHB 2 rfl 0), (Blks.cell hHB 2 rfl 1), (Blks.cell hHB 2 rfl 2), (Blks.free hHB 2 rfl 0), (Blks.free hHB 2 rfl 1), (Blks.free hHB 2 rfl 2)]
          · simp only [List.getElem?_toArray, List.getElem?_cons_succ, List.getElem?_cons_zero, Option.some.injEq] at ho
            subst ho
            replace hf : b11 = false := hf
            have d0 : b0 = true := hd ⟨0, .phase⟩ (by simp) rfl
            have d1 : b1 = true := hd ⟨1, .phase⟩ (by simp) rfl
            have d2 : b2 = true := hd ⟨2, .phase⟩ (by simp) rfl
            have d3 : b3 = true := hd ⟨3, .phase⟩ (by simp) rfl
            have d4 : b4 = true := hd ⟨4, .phase⟩ (by simp) rfl
            have d5 : b5 = true := hd ⟨5, .phase⟩ (by simp) rfl
            have d6 : b6 = true := hd ⟨6, .phase⟩ (by simp) rfl
            have d7 : b7 = true := hd ⟨7, .phase⟩ (by simp) rfl
            have d8 : b8 = true := hd ⟨8, .phase⟩ (by simp) rfl
            have d9 : b9 = true := hd ⟨9, .data⟩ (by simp) rfl
            have d10 : b10 = true := hd ⟨10, .chain⟩ (by simp) rfl
            subst d0
            subst d1
            subst d2
            subst d3
            subst d4
            subst d5
            subst d6
            subst d7
            subst d8
            subst d9
            subst d10
            subst hf
            refine Go.Proofs.YtbmklpcheopgoaaReg.op_skip ho2 rfl (w1 := (((W'.setCell ⟨(w.heap.size + 1 + 1), 0, none⟩ (.int .i64 ((rd_T33 pts i).f0))).setCell ⟨(w.heap.size + 1 + 1), 1, none⟩ (.int .i64 ((rd_T33 pts i).f1))).setCell ⟨(w.heap.size + 1 + 1), 2, none⟩ (.bool false))) ?_ (hK _ _ ⟨true, true, true, true, true, true, true, true, true, true, true, true, rfl, rfl, (Blks.set (Blks.set (Blks.set hHB 1 rfl 0 (.int .i64 ((rd_T33 pts i).f0))) 1 rfl 1 (.int .i64 ((rd_T33 pts i).f1))) 1 rfl 2 (.bool false)), (Below.setCell (Below.setCell (Below.setCell hHW (by dsimp only; omega) (.int .i64 ((rd_T33 pts i).f0))) (by dsimp only; omega) (.int .i64 ((rd_T33 pts i).f1))) (by dsimp only; omega) (.bool false))⟩)
            simp [go_sem, hu, (Blks.cell hHB 1 rfl 0), (Blks.cell hHB 1 rfl 1), (Blks.cell hHB 1 rfl 2), (Blks.free hHB 1 rfl 0), (Blks.free hHB 1 rfl 1), (Blks.free hHB 1 rfl 2)]
        · rintro lst a W' ⟨b0, b1, b2, b3, b4, b5, b6, b7, b8, b9, b10, b11, rfl, rfl, hHB, hHW⟩ hall
          have a0 : b0 = true := hall 0 (by decide)
          have a1 : b1 = true := hall 1 (by decide)
          have a2 : b2 = true := hall 2 (by decide)
          have a3 : b3 = true := hall 3 (by decide)
          have a4 : b4 = true := hall 4 (by decide)
          have a5 : b5 = true := hall 5 (by decide)
          have a6 : b6 = true := hall 6 (by decide)
          have a7 : b7 = true := hall 7 (by decide)
          have a8 : b8 = true := hall 8 (by decide)
          have a9 : b9 = true := hall 9 (by decide)
          have a10 : b10 = true := hall 10 (by decide)
          have a11 : b11 = true := hall 11 (by decide)
          subst a0 a1 a2 a3 a4 a5 a6 a7 a8 a9 a10 a11
          clear hall
          have HB : Blks [(wr.heap.size, .cells #[.int .i64 ((rd_T33 pts i).f0), .int .i64 ((rd_T33 pts i).f1), .bool (rd_T33 pts i).f2] 33 (0, 0)), ((w.heap.size + 1 + 1), .cells #[.int .i64 ((rd_T33 pts i).f0), .int .i64 ((rd_T33 pts i).f1), .bool false] 33 (0, 0)), ((w.heap.size + 1), .cells #[.int .i64 ((rd_T33 pts i).f0), .int .i64 ((rd_T33 pts i).f1), .bool false] 33 (0, 0)), (w.heap.size, .cells #[.slice (some ad0) pts.length c0, v1] 25 (0, 0))] W' := hHB
          have HW : Below w.heap.size w W' := hHW
          clear hHB hHW
          go_wp2
          refine Go.Proofs.YtbmklpcheopgoaaReg.reg_inv (by rfl) [0, 1, 2, 3, 4, 5, 6, 7, 8, 9, 10, 11, 12, 13] (by kernel_rfl) (by kernel_rfl)
            (fun lst a W' => ∃ (b0 b1 b2 b3 b4 b5 b6 b7 b8 b9 b10 b11 b12 b13 : Bool), lst = #[b0, b1, b2, b3, b4, b5, b6, b7, b8, b9, b10, b11, b12, b13] ∧ a = ⟨#[.agg #[.slice (some ad0) pts.length c0, v1], .pointer (some ⟨w.heap.size, 0, none⟩), .pointer (some ⟨(w.heap.size + 1), 0, none⟩), .pointer (some ⟨(w.heap.size + 1 + 1), 0, none⟩), .bool false, .int .i64 i, .pointer (some ⟨wr.heap.size, 0, none⟩), .pointer (some ⟨w.heap.size, 0, none⟩), .slice (some ad0) pts.length c0, .int .i64 pts.length, .int .i64 i, .bool true, .int .i64 i, .pointer (some (ad0.add (i * 3))), .agg #[.int .i64 (rd_T33 pts i).f0, .int .i64 (rd_T33 pts i).f1, .bool (rd_T33 pts i).f2], .int .i64 i, .bool true, .pointer (some ⟨wr.heap.size, 0, none⟩), .int .i64 ((rd_T33 pts i).f0), .pointer (some ⟨wr.heap.size, 1, none⟩), .int .i64 ((rd_T33 pts i).f1), .agg #[.int .i64 ((rd_T33 pts i).f0), .int .i64 ((rd_T33 pts i).f1), .bool false], .pointer (some ⟨wr.heap.size, 0, none⟩), .int .i64 ((rd_T33 pts i).f0), .pointer (some ⟨wr.heap.size, 1, none⟩), .int .i64 ((rd_T33 pts i).f1), .agg #[.int .i64 ((rd_T33 pts i).f0), .int .i64 ((rd_T33 pts i).f1), .bool false], (cond b0 (.pointer (some ⟨(w.heap.size + 1), 0, none⟩)) u27), (cond b1 (.int .i64 ((rd_T33 pts i).f0)) u28), (cond b2 (.pointer (some ⟨wr.heap.size, 0, none⟩)) u29), (cond b3 (.int .i64 ((rd_T33 pts i).f0)) u30), (cond b4 (.int .i64 (min ((rd_T33 pts i).f0) ((rd_T33 pts i).f0))) u31), (cond b5 (.pointer (some ⟨(w.heap.size + 1), 1, none⟩)) u32), (cond b6 (.int .i64 ((rd_T33 pts i).f1)) u33), (cond b7 (.pointer (some ⟨wr.heap.size, 1, none⟩)) u34), (cond b8 (.int .i64 ((rd_T33 pts i).f1)) u35), (cond b9 (.int .i64 (min ((rd_T33 pts i).f1) ((rd_T33 pts i).f1))) u36), (cond b10 (.pointer (some ⟨(w.heap.size + 1), 0, none⟩)) u37), (cond b12 (.pointer (some ⟨(w.heap.size + 1), 1, none⟩)) u38), u39, u40, u41, u42, u43, u44, u45, u46, u47, u48, u49, u50, u51, undef, undef, undef, undef, undef, undef], []⟩ ∧ (b11 = true → b1 = true) ∧ (b13 = true → b6 = true) ∧ (Blks [(wr.heap.size, .cells #[.int .i64 ((rd_T33 pts i).f0), .int .i64 ((rd_T33 pts i).f1), .bool (rd_T33 pts i).f2] 33 (0, 0)), ((w.heap.size + 1 + 1), .cells #[.int .i64 ((rd_T33 pts i).f0), .int .i64 ((rd_T33 pts i).f1), .bool false] 33 (0, 0)), ((w.heap.size + 1), .cells #[cond b11 (.int .i64 (min ((rd_T33 pts i).f0) ((rd_T33 pts i).f0))) (.int .i64 ((rd_T33 pts i).f0)), cond b13 (.int .i64 (min ((rd_T33 pts i).f1) ((rd_T33 pts i).f1))) (.int .i64 ((rd_T33 pts i).f1)), .bool false] 33 (0, 0)), (w.heap.size, .cells #[.slice (some ad0) pts.length c0, v1] 25 (0, 0))] W') ∧ (Below w.heap.size w W')) ?_ ?_ ?_ ?_
          · rintro lst a W' ⟨b0, b1, b2, b3, b4, b5, b6, b7, b8, b9, b10, b11, b12, b13, rfl, _⟩
            rfl
          · exact ⟨false, false, false, false, false, false, false, false, false, false, false, false, false, false, rfl, rfl, (fun h => Bool.noConfusion h), (fun h => Bool.noConfusion h), HB.drew, below_drew HW⟩
          · rintro lst a W' i o ⟨b0, b1, b2, b3, b4, b5, b6, b7, b8, b9, b10, b11, b12, b13, rfl, rfl, k0, k1, hHB, hHW⟩ ho hf hd K hK
            have hi : i < 14 := (Array.getElem?_eq_some_iff.1 ho).1
            have ho2 := ho
            rcases (show i = 0 ∨ i = 1 ∨ i = 2 ∨ i = 3 ∨ i = 4 ∨ i = 5 ∨ i = 6 ∨ i = 7 ∨ i = 8 ∨ i = 9 ∨ i = 10 ∨ i = 11 ∨ i = 12 ∨ i = 13 by omega) with rfl | rfl | rfl | rfl | rfl | rfl | rfl | rfl | rfl | rfl | rfl | rfl | rfl | rfl
            · simp only [List.getElem?_toArray, List.getElem?_cons_succ, List.getElem?_cons_zero, Option.some.injEq] at ho
              subst ho
              replace hf : b0 = false := hf
              subst hf
              refine Go.Proofs.YtbmklpcheopgoaaReg.op_val ho2 rfl (v := .pointer (some ⟨(w.heap.size + 1), 0, none⟩)) (w1 := W') ?_ (hK _ _ ⟨true, b1, b2, b3, b4, b5, b6, b7, b8, b9, b10, b11, b12, b13, rfl, rfl, (k0), (k1), hHB, hHW⟩)
              simp [go_sem, hu]
            · simp only [List.getElem?_toArray, List.getElem?_cons_succ, List.getElem?_cons_zero, Option.some.injEq] at ho
              subst ho
              replace hf : b1 = false := hf
              have d0 : b0 = true := hd ⟨0, .data⟩ (by simp) rfl
              subst d0
              have n11 : b11 = false := Bool.eq_false_iff.mpr (fun h => absurd (k0 h) (by rw [hf]; decide))
              subst n11
              subst hf
              refine Go.Proofs.YtbmklpcheopgoaaReg.op_val ho2 rfl (v := .int .i64 ((rd_T33 pts i).f0)) (w1 := W') ?_ (hK _ _ ⟨true, true, b2, b3, b4, b5, b6, b7, b8, b9, b10, false, b12, b13, rfl, rfl, (fun _ => rfl), (k1), hHB, hHW⟩)
              simp [go_sem, hu, (Blks.cell hHB 2 rfl 0)]
            · simp only [List.getElem?_toArray, List.getElem?_cons_succ, List.getElem?_cons_zero, Option.some.injEq] at ho
              subst ho
              replace hf : b2 = false := hf
              subst hf
              refine Go.Proofs.YtbmklpcheopgoaaReg.op_val ho2 rfl (v := .pointer (some ⟨wr.heap.size, 0, none⟩)) (w1 := W') ?_ (hK _ _ ⟨b0, b1, true, b3, b4, b5, b6, b7, b8, b9, b10, b11, b12, b13, rfl, rfl, (k0), (k1), hHB, hHW⟩)
              simp [go_sem, hu]
            · simp only [List.getElem?_toArray, List.getElem?_cons_succ, List.getElem?_cons_zero, Option.some.injEq] at ho
              subst ho
              replace hf : b3 = false := hf
              have d2 : b2 = true := hd ⟨2, .data⟩ (by simp) rfl
              subst d2
              subst hf
              refine Go.Proofs.YtbmklpcheopgoaaReg.op_val ho2 rfl (v := .int .i64 ((rd_T33 pts i).f0)) (w1 := W') ?_ (hK _ _ ⟨b0, b1, true, true, b4, b5, b6, b7, b8, b9, b10, b11, b12, b13, rfl, rfl, (k0), (k1), hHB, hHW⟩)
              simp [go_sem, hu, (Blks.cell hHB 0 rfl 0)]
            · simp only [List.getElem?_toArray, List.getElem?_cons_succ, List.getElem?_cons_zero, Option.some.injEq] at ho
              subst ho
              replace hf : b4 = false := hf
              have d1 : b1 = true := hd ⟨1, .data⟩ (by simp) rfl
              have d3 : b3 = true := hd ⟨3, .data⟩ (by simp) rfl
              subst d1
              subst d3
              subst hf
              refine Go.Proofs.YtbmklpcheopgoaaReg.op_val ho2 rfl (v := .int .i64 (min ((rd_T33 pts i).f0) ((rd_T33 pts i).f0))) (w1 := W') ?_ (hK _ _ ⟨b0, true, b2, true, true, b5, b6, b7, b8, b9, b10, b11, b12, b13, rfl, rfl, (fun _ => rfl), (k1), hHB, hHW⟩)
              simp [go_sem, hu] <;> omega
            · simp only [List.getElem?_toArray, List.getElem?_cons_succ, List.getElem?_cons_zero, Option.some.injEq] at ho
              subst ho
              replace hf : b5 = false := hf
              subst hf
              refine Go.Proofs.YtbmklpcheopgoaaReg.op_val ho2 rfl (v := .pointer (some ⟨(w.heap.size + 1), 1, none⟩)) (w1 := W') ?_ (hK _ _ ⟨b0, b1, b2, b3, b4, true, b6, b7, b8, b9, b10, b11, b12, b13, rfl, rfl, (k0), (k1), hHB, hHW⟩)
              simp [go_sem, hu]
            · simp only [List.getElem?_toArray, List.getElem?_cons_succ, List.getElem?_cons_zero, Option.some.injEq] at ho
              subst ho
              replace hf : b6 = false := hf
              have d5 : b5 = true := hd ⟨5, .data⟩ (by simp) rfl
              subst d5
              have n13 : b13 = false := Bool.eq_false_iff.mpr (fun h => absurd (k1 h) (by rw [hf]; decide))
              subst n13
              subst hf
              refine Go.Proofs.YtbmklpcheopgoaaReg.op_val ho2 rfl (v := .int .i64 ((rd_T33 pts i).f1)) (w1 := W') ?_ (hK _ _ ⟨b0, b1, b2, b3, b4, true, true, b7, b8, b9, b10, b11, b12, false, rfl, rfl, (k0), (fun _ => rfl), hHB, hHW⟩)
              simp [go_sem, hu, (Blks.cell hHB 2 rfl 1)]
            · simp only [List.getElem?_toArray, List.getElem?_cons_succ, List.getElem?_cons_zero, Option.some.injEq] at ho
              subst ho
              replace hf : b7 = false := hf
              subst hf
              refine Go.Proofs.YtbmklpcheopgoaaReg.op_val ho2 rfl (v := .pointer (some ⟨wr.heap.size, 1, none⟩)) (w1 := W') ?_ (hK _ _ ⟨b0, b1, b2, b3, b4, b5, b6, true, b8, b9, b10, b11, b12, b13, rfl, rfl, (k0), (k1), hHB, hHW⟩)
              simp [go_sem, hu]
            · simp only [List.getElem?_toArray, List.getElem?_cons_succ, List.getElem?_cons_zero, Option.some.injEq] at ho
              subst ho
              replace hf : b8 = false := hf
              have d7 : b7 = true := hd ⟨7, .data⟩ (by simp) rfl
              subst d7
              subst hf
              refine Go.Proofs.YtbmklpcheopgoaaReg.op_val ho2 rfl (v := .int .i64 ((rd_T33 pts i).f1)) (w1 := W') ?_ (hK _ _ ⟨b0, b1, b2, b3, b4, b5, b6, true, true, b9, b10, b11, b12, b13, rfl, rfl, (k0), (k1), hHB, hHW⟩)
              simp [go_sem, hu, (Blks.cell hHB 0 rfl 1)]
            · simp only [List.getElem?_toArray, List.getElem?_cons_succ, List.getElem?_cons_zero, Option.some.injEq] at ho
              subst ho
              replace hf : b9 = false := hf
              have d6 : b6 = true := hd ⟨6, .data⟩ (by simp) rfl
              have d8 : b8 = true := hd ⟨8, .data⟩ (by simp) rfl
              subst d6
              subst d8
              subst hf
              refine Go.Proofs.YtbmklpcheopgoaaReg.op_val ho2 rfl (v := .int .i64 (min ((rd_T33 pts i).f1) ((rd_T33 pts i).f1))) (w1 := W') ?_ (hK _ _ ⟨b0, b1, b2, b3, b4, b5, true, b7, true, true, b10, b11, b12, b13, rfl, rfl, (k0), (fun _ => rfl), hHB, hHW⟩)
              simp [go_sem, hu] <;> omega
            · simp only [List.getElem?_toArray, List.getElem?_cons_succ, List.getElem?_cons_zero, Option.some.injEq] at ho
              subst ho
              replace hf : b10 = false := hf
              have d0 : b0 = true := hd ⟨0, .phase⟩ (by simp) rfl
              have d1 : b1 = true := hd ⟨1, .phase⟩ (by simp) rfl
              have d2 : b2 = true := hd ⟨2, .phase⟩ (by simp) rfl
              have d3 : b3 = true := hd ⟨3, .phase⟩ (by simp) rfl
              have d4 : b4 = true := hd ⟨4, .phase⟩ (by simp) rfl
              have d5 : b5 = true := hd ⟨5, .phase⟩ (by simp) rfl
              have d6 : b6 = true := hd ⟨6, .phase⟩ (by simp) rfl
              subst d0
              subst d1
              subst d2
              subst d3
              subst d4
              subst d5
              subst d6
              subst hf
              refine Go.Proofs.YtbmklpcheopgoaaReg.op_val ho2 rfl (v := .pointer (some ⟨(w.heap.size + 1), 0, none⟩)) (w1 := W') ?_ (hK _ _ ⟨true, true, true, true, true, true, true, b7, b8, b9, true, b11, b12, b13, rfl, rfl, (fun _ => rfl), (fun _ => rfl), hHB, hHW⟩)
              simp [go_sem, hu]
            · simp only [List.getElem?_toArray, List.getElem?_cons_succ, List.getElem?_cons_zero, Option.some.injEq] at ho
              subst ho
              replace hf : b11 = false := hf
              have d0 : b0 = true := hd ⟨0, .phase⟩ (by simp) rfl
              have d1 : b1 = true := hd ⟨1, .phase⟩ (by simp) rfl
              have d2 : b2 = true := hd ⟨2, .phase⟩ (by simp) rfl
              have d3 : b3 = true := hd ⟨3, .phase⟩ (by simp) rfl
              have d4 : b4 = true := hd ⟨4, .data⟩ (by simp) rfl
              have d5 : b5 = true := hd ⟨5, .phase⟩ (by simp) rfl
              have d6 : b6 = true := hd ⟨6, .phase⟩ (by simp) rfl
              have d10 : b10 = true := hd ⟨10, .data⟩ (by simp) rfl
              subst d0
              subst d1
              subst d2
              subst d3
              subst d4
              subst d5
              subst d6
              subst d10
              subst hf
              refine Go.Proofs.YtbmklpcheopgoaaReg.op_skip ho2 rfl (w1 := W'.setCell ⟨(w.heap.size + 1), 0, none⟩ (.int .i64 (min ((rd_T33 pts i).f0) ((rd_T33 pts i).f0)))) ?_ (hK _ _ ⟨true, true, true, true, true, true, true, b7, b8, b9, true, true, b12, b13, rfl, rfl, (fun _ => rfl), (fun _ => rfl), Blks.set hHB 2 rfl 0 (.int .i64 (min ((rd_T33 pts i).f0) ((rd_T33 pts i).f0))), (Below.setCell hHW (by dsimp only; omega) (.int .i64 (min ((rd_T33 pts i).f0) ((rd_T33 pts i).f0))))⟩)
              simp [go_sem, hu, (Blks.cell hHB 2 rfl 0), (Blks.free hHB 2 rfl 0)]
            · simp only [List.getElem?_toArray, List.getElem?_cons_succ, List.getElem?_cons_zero, Option.some.injEq] at ho
              subst ho
              replace hf : b12 = false := hf
              have d0 : b0 = true := hd ⟨0, .phase⟩ (by simp) rfl
              have d1 : b1 = true := hd ⟨1, .phase⟩ (by simp) rfl
              have d2 : b2 = true := hd ⟨2, .phase⟩ (by simp) rfl
              have d3 : b3 = true := hd ⟨3, .phase⟩ (by simp) rfl
              have d4 : b4 = true := hd ⟨4, .phase⟩ (by simp) rfl
              have d5 : b5 = true := hd ⟨5, .phase⟩ (by simp) rfl
              have d6 : b6 = true := hd ⟨6, .phase⟩ (by simp) rfl
              have d7 : b7 = true := hd ⟨7, .phase⟩ (by simp) rfl
              have d8 : b8 = true := hd ⟨8, .phase⟩ (by simp) rfl
              have d9 : b9 = true := hd ⟨9, .phase⟩ (by simp) rfl
              have d10 : b10 = true := hd ⟨10, .phase⟩ (by simp) rfl
              have d11 : b11 = true := hd ⟨11, .phase⟩ (by simp) rfl
              subst d0
              subst d1
              subst d2
              subst d3
              subst d4
              subst d5
              subst d6
              subst d7
              subst d8
              subst d9
              subst d10
              subst d11
              subst hf
              refine Go.Proofs.YtbmklpcheopgoaaReg.op_val ho2 rfl (v := .pointer (some ⟨(w.heap.size + 1), 1, none⟩)) (w1 := W') ?_ (hK _ _ ⟨true, true, true, true, true, true, true, true, true, true, true, true, true, b13, rfl, rfl, (fun _ => rfl), (fun _ => rfl), hHB, hHW⟩)
              simp [go_sem, hu]
            · simp only [List.getElem?_toArray, List.getElem?_cons_succ, List.getElem?_cons_zero, Option.some.injEq] at ho
              subst ho
              replace hf : b13 = false := hf
              have d0 : b0 = true := hd ⟨0, .phase⟩ (by simp) rfl
              have d1 : b1 = true := hd ⟨1, .phase⟩ (by simp) rfl
              have d2 : b2 = true := hd ⟨2, .phase⟩ (by simp) rfl
              have d3 : b3 = true := hd ⟨3, .phase⟩ (by simp) rfl
              have d4 : b4 = true := hd ⟨4, .phase⟩ (by simp) rfl
              have d5 : b5 = true := hd ⟨5, .phase⟩ (by simp) rfl
              have d6 : b6 = true := hd ⟨6, .phase⟩ (by simp) rfl
              have d7 : b7 = true := hd ⟨7, .phase⟩ (by simp) rfl
              have d8 : b8 = true := hd ⟨8, .phase⟩ (by simp) rfl
              have d9 : b9 = true := hd ⟨9, .data⟩ (by simp) rfl
              have d10 : b10 = true := hd ⟨10, .phase⟩ (by simp) rfl
              have d11 : b11 = true := hd ⟨11, .chain⟩ (by simp) rfl
              have d12 : b12 = true := hd ⟨12, .data⟩ (by simp) rfl
              subst d0
              subst d1
              subst d2
              subst d3
              subst d4
              subst d5
              subst d6
              subst d7
              subst d8
              subst d9
              subst d10
              subst d11
              subst d12
              subst hf
              refine Go.Proofs.YtbmklpcheopgoaaReg.op_skip ho2 rfl (w1 := W'.setCell ⟨(w.heap.size + 1), 1, none⟩ (.int .i64 (min ((rd_T33 pts i).f1) ((rd_T33 pts i).f1)))) ?_ (hK _ _ ⟨true, true, true, true, true, true, true, true, true, true, true, true, true, true, rfl, rfl, (fun _ => rfl), (fun _ => rfl), Blks.set hHB 2 rfl 1 (.int .i64 (min ((rd_T33 pts i).f1) ((rd_T33 pts i).f1))), (Below.setCell hHW (by dsimp only; omega) (.int .i64 (min ((rd_T33 pts i).f1) ((rd_T33 pts i).f1))))⟩)
              simp [go_sem, hu, (Blks.cell hHB 2 rfl 1), (Blks.free hHB 2 rfl 1)]
          · rintro lst a W' ⟨b0, b1, b2, b3, b4, b5, b6, b7, b8, b9, b10, b11, b12, b13, rfl, rfl, k0, k1, hHB, hHW⟩ hall
            have a0 : b0 = true := hall 0 (by decide)
            have a1 : b1 = true := hall 1 (by decide)
            have a2 : b2 = true := hall 2 (by decide)
            have a3 : b3 = true := hall 3 (by decide)
            have a4 : b4 = true := hall 4 (by decide)
            have a5 : b5 = true := hall 5 (by decide)
            have a6 : b6 = true := hall 6 (by decide)
            have a7 : b7 = true := hall 7 (by decide)
            have a8 : b8 = true := hall 8 (by decide)
            have a9 : b9 = true := hall 9 (by decide)
            have a10 : b10 = true := hall 10 (by decide)
            have a11 : b11 = true := hall 11 (by decide)
            have a12 : b12 = true := hall 12 (by decide)
            have a13 : b13 = true := hall 13 (by decide)
            subst a0 a1 a2 a3 a4 a5 a6 a7 a8 a9 a10 a11 a12 a13
            clear k0 k1
            clear hall
            have HB : Blks [(wr.heap.size, .cells #[.int .i64 ((rd_T33 pts i).f0), .int .i64 ((rd_T33 pts i).f1), .bool (rd_T33 pts i).f2] 33 (0, 0)), ((w.heap.size + 1 + 1), .cells #[.int .i64 ((rd_T33 pts i).f0), .int .i64 ((rd_T33 pts i).f1), .bool false] 33 (0, 0)), ((w.heap.size + 1), .cells #[.int .i64 (min ((rd_T33 pts i).f0) ((rd_T33 pts i).f0)), .int .i64 (min ((rd_T33 pts i).f1) ((rd_T33 pts i).f1)), .bool false] 33 (0, 0)), (w.heap.size, .cells #[.slice (some ad0) pts.length c0, v1] 25 (0, 0))] W' := hHB
            have HW : Below w.heap.size w W' := hHW
            clear hHB hHW
            go_wp2
            refine Go.Proofs.YtbmklpcheopgoaaReg.reg_inv (by rfl) [0, 1, 2, 3, 4, 5, 6, 7, 8, 9, 10, 11, 12, 13] (by kernel_rfl) (by kernel_rfl)
              (fun lst a W' => ∃ (b0 b1 b2 b3 b4 b5 b6 b7 b8 b9 b10 b11 b12 b13 : Bool), lst = #[b0, b1, b2, b3, b4, b5, b6, b7, b8, b9, b10, b11, b12, b13] ∧ a = ⟨#[.agg #[.slice (some ad0) pts.length c0, v1], .pointer (some ⟨w.heap.size, 0, none⟩), .pointer (some ⟨(w.heap.size + 1), 0, none⟩), .pointer (some ⟨(w.heap.size + 1 + 1), 0, none⟩), .bool false, .int .i64 i, .pointer (some ⟨wr.heap.size, 0, none⟩), .pointer (some ⟨w.heap.size, 0, none⟩), .slice (some ad0) pts.length c0, .int .i64 pts.length, .int .i64 i, .bool true, .int .i64 i, .pointer (some (ad0.add (i * 3))), .agg #[.int .i64 (rd_T33 pts i).f0, .int .i64 (rd_T33 pts i).f1, .bool (rd_T33 pts i).f2], .int .i64 i, .bool true, .pointer (some ⟨wr.heap.size, 0, none⟩), .int .i64 ((rd_T33 pts i).f0), .pointer (some ⟨wr.heap.size, 1, none⟩), .int .i64 ((rd_T33 pts i).f1), .agg #[.int .i64 ((rd_T33 pts i).f0), .int .i64 ((rd_T33 pts i).f1), .bool false], .pointer (some ⟨wr.heap.size, 0, none⟩), .int .i64 ((rd_T33 pts i).f0), .pointer (some ⟨wr.heap.size, 1, none⟩), .int .i64 ((rd_T33 pts i).f1), .agg #[.int .i64 ((rd_T33 pts i).f0), .int .i64 ((rd_T33 pts i).f1), .bool false], .pointer (some ⟨(w.heap.size + 1), 0, none⟩), .int .i64 ((rd_T33 pts i).f0), .pointer (some ⟨wr.heap.size, 0, none⟩), .int .i64 ((rd_T33 pts i).f0), .int .i64 (min ((rd_T33 pts i).f0) ((rd_T33 pts i).f0)), .pointer (some ⟨(w.heap.size + 1), 1, none⟩), .int .i64 ((rd_T33 pts i).f1), .pointer (some ⟨wr.heap.size, 1, none⟩), .int .i64 ((rd_T33 pts i).f1), .int .i64 (min ((rd_T33 pts i).f1) ((rd_T33 pts i).f1)), .pointer (some ⟨(w.heap.size + 1), 0, none⟩), .pointer (some ⟨(w.heap.size + 1), 1, none⟩), (cond b0 (.pointer (some ⟨(w.heap.size + 1 + 1), 0, none⟩)) u39), (cond b1 (.int .i64 ((rd_T33 pts i).f0)) u40), (cond b2 (.pointer (some ⟨wr.heap.size, 0, none⟩)) u41), (cond b3 (.int .i64 ((rd_T33 pts i).f0)) u42), (cond b4 (.int .i64 (max ((rd_T33 pts i).f0) ((rd_T33 pts i).f0))) u43), (cond b5 (.pointer (some ⟨(w.heap.size + 1 + 1), 1, none⟩)) u44), (cond b6 (.int .i64 ((rd_T33 pts i).f1)) u45), (cond b7 (.pointer (some ⟨wr.heap.size, 1, none⟩)) u46), (cond b8 (.int .i64 ((rd_T33 pts i).f1)) u47), (cond b9 (.int .i64 (max ((rd_T33 pts i).f1) ((rd_T33 pts i).f1))) u48), (cond b10 (.pointer (some ⟨(w.heap.size + 1 + 1), 0, none⟩)) u49), (cond b12 (.pointer (some ⟨(w.heap.size + 1 + 1), 1, none⟩)) u50), u51, undef, undef, undef, undef, undef, undef], []⟩ ∧ (b11 = true → b1 = true) ∧ (b13 = true → b6 = true) ∧ (Blks [(wr.heap.size, .cells #[.int .i64 ((rd_T33 pts i).f0), .int .i64 ((rd_T33 pts i).f1), .bool (rd_T33 pts i).f2] 33 (0, 0)), ((w.heap.size + 1 + 1), .cells #[cond b11 (.int .i64 (max ((rd_T33 pts i).f0) ((rd_T33 pts i).f0))) (.int .i64 ((rd_T33 pts i).f0)), cond b13 (.int .i64 (max ((rd_T33 pts i).f1) ((rd_T33 pts i).f1))) (.int .i64 ((rd_T33 pts i).f1)), .bool false] 33 (0, 0)), ((w.heap.size + 1), .cells #[.int .i64 (min ((rd_T33 pts i).f0) ((rd_T33 pts i).f0)), .int .i64 (min ((rd_T33 pts i).f1) ((rd_T33 pts i).f1)), .bool false] 33 (0, 0)), (w.heap.size, .cells #[.slice (some ad0) pts.length c0, v1] 25 (0, 0))] W') ∧ (Below w.heap.size w W')) ?_ ?_ ?_ ?_
            · rintro lst a W' ⟨b0, b1, b2, b3, b4, b5, b6, b7, b8, b9, b10, b11, b12, b13, rfl, _⟩
              rfl
            · exact ⟨false, false, false, false, false, false, false, false, false, false, false, false, false, false, rfl, rfl, (fun h => Bool.noConfusion h), (fun h => Bool.noConfusion h), HB.drew, below_drew HW⟩
            · rintro lst a W' i o ⟨b0, b1, b2, b3, b4, b5, b6, b7, b8, b9, b10, b11, b12, b13, rfl, rfl, k0, k1, hHB, hHW⟩ ho hf hd K hK
              have hi : i < 14 := (Array.getElem?_eq_some_iff.1 ho).1
              have ho2 := ho
              rcases (show i = 0 ∨ i = 1 ∨ i = 2 ∨ i = 3 ∨ i = 4 ∨ i = 5 ∨ i = 6 ∨ i = 7 ∨ i = 8 ∨ i = 9 ∨ i = 10 ∨ i = 11 ∨ i = 12 ∨ i = 13 by omega) with rfl | rfl | rfl | rfl | rfl | rfl | rfl | rfl | rfl | rfl | rfl | rfl | rfl | rfl
              · simp only [List.getElem?_toArray, List.getElem?_cons_succ, List.getElem?_cons_zero, Option.some.injEq] at ho
                subst ho
                replace hf : b0 = false := hf
                subst hf
                refine Go.Proofs.YtbmklpcheopgoaaReg.op_val ho2 rfl (v := .pointer (some ⟨(w.heap.size + 1 + 1), 0, none⟩)) (w1 := W') ?_ (hK _ _ ⟨true, b1, b2, b3, b4, b5, b6, b7, b8, b9, b10, b11, b12, b13, rfl, rfl, (k0), (k1), hHB, hHW⟩)
                simp [go_sem, hu]
              · simp only [List.getElem?_toArray, List.getElem?_cons_succ, List.getElem?_cons_zero, Option.some.injEq] at ho
                subst ho
                replace hf : b1 = false := hf
                have d0 : b0 = true := hd ⟨0, .data⟩ (by simp) rfl
                subst d0
                have n11 : b11 = false := Bool.eq_false_iff.mpr (fun h => absurd (k0 h) (by rw [hf]; decide))
                subst n11
                subst hf
                refine Go.Proofs.YtbmklpcheopgoaaReg.op_val ho2 rfl (v := .int .i64 ((rd_T33 pts i).f0)) (w1 := W') ?_ (hK _ _ ⟨true, true, b2, b3, b4, b5, b6, b7, b8, b9, b10, false, b12, b13, rfl, rfl, (fun _ => rfl), (k1), hHB, hHW⟩)
                simp [go_sem, hu, (Blks.cell hHB 1 rfl 0)]
              · simp only [List.getElem?_toArray, List.getElem?_cons_succ, List.getElem?_cons_zero, Option.some.injEq] at ho
                subst ho
                replace hf : b2 = false := hf
                subst hf
                refine Go.Proofs.YtbmklpcheopgoaaReg.op_val ho2 rfl (v := .pointer (some ⟨wr.heap.size, 0, none⟩)) (w1 := W') ?_ (hK _ _ ⟨b0, b1, true, b3, b4, b5, b6, b7, b8, b9, b10, b11, b12, b13, rfl, rfl, (k0), (k1), hHB, hHW⟩)
                simp [go_sem, hu]
              · simp only [List.getElem?_toArray, List.getElem?_cons_succ, List.getElem?_cons_zero, Option.some.injEq] at ho
                subst ho
                replace hf : b3 = false := hf
                have d2 : b2 = true := hd ⟨2, .data⟩ (by simp) rfl
                subst d2
                subst hf
                refine Go.Proofs.YtbmklpcheopgoaaReg.op_val ho2 rfl (v := .int .i64 ((rd_T33 pts i).f0)) (w1 := W') ?_ (hK _ _ ⟨b0, b1, true, true, b4, b5, b6, b7, b8, b9, b10, b11, b12, b13, rfl, rfl, (k0), (k1), hHB, hHW⟩)
                simp [go_sem, hu, (Blks.cell hHB 0 rfl 0)]
              · simp only [List.getElem?_toArray, List.getElem?_cons_succ, List.getElem?_cons_zero, Option.some.injEq] at ho
                subst ho
                replace hf : b4 = false := hf
                have d1 : b1 = true := hd ⟨1, .data⟩ (by simp) rfl
                have d3 : b3 = true := hd ⟨3, .data⟩ (by simp) rfl
                subst d1
                subst d3
                subst hf
                refine Go.Proofs.YtbmklpcheopgoaaReg.op_val ho2 rfl (v := .int .i64 (max ((rd_T33 pts i).f0) ((rd_T33 pts i).f0))) (w1 := W') ?_ (hK _ _ ⟨b0, true, b2, true, true, b5, b6, b7, b8, b9, b10, b11, b12, b13, rfl, rfl, (fun _ => rfl), (k1), hHB, hHW⟩)
                simp [go_sem, hu] <;> omega
              · simp only [List.getElem?_toArray, List.getElem?_cons_succ, List.getElem?_cons_zero, Option.some.injEq] at ho
                subst ho
                replace hf : b5 = false := hf
                subst hf
                refine Go.Proofs.YtbmklpcheopgoaaReg.op_val ho2 rfl (v := .pointer (some ⟨(w.heap.size + 1 + 1), 1, none⟩)) (w1 := W') ?_ (hK _ _ ⟨b0, b1, b2, b3, b4, true, b6, b7, b8, b9, b10, b11, b12, b13, rfl, rfl, (k0), (k1), hHB, hHW⟩)
                simp [go_sem, hu]
              · simp only [List.getElem?_toArray, List.getElem?_cons_succ, List.getElem?_cons_zero, Option.some.injEq] at ho
                subst ho
                replace hf : b6 = false := hf
                have d5 : b5 = true := hd ⟨5, .data⟩ (by simp) rfl
                subst d5
                have n13 : b13 = false := Bool.eq_false_iff.mpr (fun h => absurd (k1 h) (by rw [hf]; decide))
                subst n13
                subst hf
                refine Go.Proofs.YtbmklpcheopgoaaReg.op_val ho2 rfl (v := .int .i64 ((rd_T33 pts i).f1)) (w1 := W') ?_ (hK _ _ ⟨b0, b1, b2, b3, b4, true, true, b7, b8, b9, b10, b11, b12, false, rfl, rfl, (k0), (fun _ => rfl), hHB, hHW⟩)
                simp [go_sem, hu, (Blks.cell hHB 1 rfl 1)]
              · simp only [List.getElem?_toArray, List.getElem?_cons_succ, List.getElem?_cons_zero, Option.some.injEq] at ho
                subst ho
                replace hf : b7 = false := hf
                subst hf
                refine Go.Proofs.YtbmklpcheopgoaaReg.op_val ho2 rfl (v := .pointer (some ⟨wr.heap.size, 1, none⟩)) (w1 := W') ?_ (hK _ _ ⟨b0, b1, b2, b3, b4, b5, b6, true, b8, b9, b10, b11, b12, b13, rfl, rfl, (k0), (k1), hHB, hHW⟩)
                simp [go_sem, hu]
              · simp only [List.getElem?_toArray, List.getElem?_cons_succ, List.getElem?_cons_zero, Option.some.injEq] at ho
                subst ho
                replace hf : b8 = false := hf
                have d7 : b7 = true := hd ⟨7, .data⟩ (by simp) rfl
                subst d7
                subst hf
                refine Go.Proofs.YtbmklpcheopgoaaReg.op_val ho2 rfl (v := .int .i64 ((rd_T33 pts i).f1)) (w1 := W') ?_ (hK _ _ ⟨b0, b1, b2, b3, b4, b5, b6, true, true, b9, b10, b11, b12, b13, rfl, rfl, (k0), (k1), hHB, hHW⟩)
                simp [go_sem, hu, (Blks.cell hHB 0 rfl 1)]
              · simp only [List.getElem?_toArray, List.getElem?_cons_succ, List.getElem?_cons_zero, Option.some.injEq] at ho
                subst ho
                replace hf : b9 = false := hf
                have d6 : b6 = true := hd ⟨6, .data⟩ (by simp) rfl
                have d8 : b8 = true := hd ⟨8, .data⟩ (by simp) rfl
                subst d6
                subst d8
                subst hf
                refine Go.Proofs.YtbmklpcheopgoaaReg.op_val ho2 rfl (v := .int .i64 (max ((rd_T33 pts i).f1) ((rd_T33 pts i).f1))) (w1 := W') ?_ (hK _ _ ⟨b0, b1, b2, b3, b4, b5, true, b7, true, true, b10, b11, b12, b13, rfl, rfl, (k0), (fun _ => rfl), hHB, hHW⟩)
                simp [go_sem, hu] <;> omega
              · simp only [List.getElem?_toArray, List.getElem?_cons_succ, List.getElem?_cons_zero, Option.some.injEq] at ho
                subst ho
                replace hf : b10 = false := hf
                have d0 : b0 = true := hd ⟨0, .phase⟩ (by simp) rfl
                have d1 : b1 = true := hd ⟨1, .phase⟩ (by simp) rfl
                have d2 : b2 = true := hd ⟨2, .phase⟩ (by simp) rfl
                have d3 : b3 = true := hd ⟨3, .phase⟩ (by simp) rfl
                have d4 : b4 = true := hd ⟨4, .phase⟩ (by simp) rfl
                have d5 : b5 = true := hd ⟨5, .phase⟩ (by simp) rfl
                have d6 : b6 = true := hd ⟨6, .phase⟩ (by simp) rfl
                subst d0
                subst d1
                subst d2
                subst d3
                subst d4
                subst d5
                subst d6
                subst hf
                refine Go.Proofs.YtbmklpcheopgoaaReg.op_val ho2 rfl (v := .pointer (some ⟨(w.heap.size + 1 + 1), 0, none⟩)) (w1 := W') ?_ (hK _ _ ⟨true, true, true, true, true, true, true, b7, b8, b9, true, b11, b12, b13, rfl, rfl, (fun _ => rfl), (fun _ => rfl), hHB, hHW⟩)
                simp [go_sem, hu]
              · simp only [List.getElem?_toArray, List.getElem?_cons_succ, List.getElem?_cons_zero, Option.some.injEq] at ho
                subst ho
                replace hf : b11 = false := hf
                have d0 : b0 = true := hd ⟨0, .phase⟩ (by simp) rfl
                have d1 : b1 = true := hd ⟨1, .phase⟩ (by simp) rfl
                have d2 : b2 = true := hd ⟨2, .phase⟩ (by simp) rfl
                have d3 : b3 = true := hd ⟨3, .phase⟩ (by simp) rfl
                have d4 : b4 = true := hd ⟨4, .data⟩ (by simp) rfl
                have d5 : b5 = true := hd ⟨5, .phase⟩ (by simp) rfl
                have d6 : b6 = true := hd ⟨6, .phase⟩ (by simp) rfl
                have d10 : b10 = true := hd ⟨10, .data⟩ (by simp) rfl
                subst d0
                subst d1
                subst d2
                subst d3
                subst d4
                subst d5
                subst d6
                subst d10
                subst hf
                refine Go.Proofs.YtbmklpcheopgoaaReg.op_skip ho2 rfl (w1 := W'.setCell ⟨(w.heap.size + 1 + 1), 0, none⟩ (.int .i64 (max ((rd_T33 pts i).f0) ((rd_T33 pts i).f0)))) ?_ (hK _ _ ⟨true, true, true, true, true, true, true, b7, b8, b9, true, true, b12, b13, rfl, rfl, (fun _ => rfl), (fun _ => rfl), Blks.set hHB 1 rfl 0 (.int .i64 (max ((rd_T33 pts i).f0) ((rd_T33 pts i).f0))), (Below.setCell hHW (by dsimp only; omega) (.int .i64 (max ((rd_T33 pts i).f0) ((rd_T33 pts i).f0))))⟩)
                simp [go_sem, hu, (Blks.cell hHB 1 rfl 0), (Blks.free hHB 1 rfl 0)]
              · simp only [List.getElem?_toArray, List.getElem?_cons_succ, List.getElem?_cons_zero, Option.some.injEq] at ho
                subst ho
                replace hf : b12 = false := hf
                have d0 : b0 = true := hd ⟨0, .phase⟩ (by simp) rfl
                have d1 : b1 = true := hd ⟨1, .phase⟩ (by simp) rfl
                have d2 : b2 = true := hd ⟨2, .phase⟩ (by simp) rfl
                have d3 : b3 = true := hd ⟨3, .phase⟩ (by simp) rfl
                have d4 : b4 = true := hd ⟨4, .phase⟩ (by simp) rfl
                have d5 : b5 = true := hd ⟨5, .phase⟩ (by simp) rfl
                have d6 : b6 = true := hd ⟨6, .phase⟩ (by simp) rfl
                have d7 : b7 = true := hd ⟨7, .phase⟩ (by simp) rfl
                have d8 : b8 = true := hd ⟨8, .phase⟩ (by simp) rfl
                have d9 : b9 = true := hd ⟨9, .phase⟩ (by simp) rfl
                have d10 : b10 = true := hd ⟨10, .phase⟩ (by simp) rfl
                have d11 : b11 = true := hd ⟨11, .phase⟩ (by simp) rfl
                subst d0
                subst d1
                subst d2
                subst d3
                subst d4
                subst d5
                subst d6
                subst d7
                subst d8
                subst d9
                subst d10
                subst d11
                subst hf
                refine Go.Proofs.YtbmklpcheopgoaaReg.op_val ho2 rfl (v := .pointer (some ⟨(w.heap.size + 1 + 1), 1, none⟩)) (w1 := W') ?_ (hK _ _ ⟨true, true, true, true, true, true, true, true, true, true, true, true, true, b13, rfl, rfl, (fun _ => rfl), (fun _ => rfl), hHB, hHW⟩)
                simp [go_sem, hu]
              · simp only [List.getElem?_toArray, List.getElem?_cons_succ, List.getElem?_cons_zero, Option.some.injEq] at ho
                subst ho
                replace hf : b13 = false := hf
                have d0 : b0 = true := hd ⟨0, .phase⟩ (by simp) rfl
                have d1 : b1 = true := hd ⟨1, .phase⟩ (by simp) rfl
                have d2 : b2 = true := hd ⟨2, .phase⟩ (by simp) rfl
                have d3 : b3 = true := hd ⟨3, .phase⟩ (by simp) rfl
                have d4 : b4 = true := hd ⟨4, .phase⟩ (by simp) rfl
                have d5 : b5 = true := hd ⟨5, .phase⟩ (by simp) rfl
                have d6 : b6 = true := hd ⟨6, .phase⟩ (by simp) rfl
                have d7 : b7 = true := hd ⟨7, .phase⟩ (by simp) rfl
                have d8 : b8 = true := hd ⟨8, .phase⟩ (by simp) rfl
                have d9 : b9 = true := hd ⟨9, .data⟩ (by simp) rfl
                have d10 : b10 = true := hd ⟨10, .phase⟩ (by simp) rfl
                have d11 : b11 = true := hd ⟨11, .chain⟩ (by simp) rfl
                have d12 : b12 = true := hd ⟨12, .data⟩ (by simp) rfl
                subst d0
                subst d1
                subst d2
                subst d3
                subst d4
                subst d5
                subst d6
                subst d7
                subst d8
                subst d9
                subst d10
                subst d11
                subst d12
                subst hf
                refine Go.Proofs.YtbmklpcheopgoaaReg.op_skip ho2 rfl (w1 := W'.setCell ⟨(w.heap.size + 1 + 1), 1, none⟩ (.int .i64 (max ((rd_T33 pts i).f1) ((rd_T33 pts i).f1)))) ?_ (hK _ _ ⟨true, true, true, true, true, true, true, true, true, true, true, true, true, true, rfl, rfl, (fun _ => rfl), (fun _ => rfl), Blks.set hHB 1 rfl 1 (.int .i64 (max ((rd_T33 pts i).f1) ((rd_T33 pts i).f1))), (Below.setCell hHW (by dsimp only; omega) (.int .i64 (max ((rd_T33 pts i).f1) ((rd_T33 pts i).f1))))⟩)
                simp [go_sem, hu, (Blks.cell hHB 1 rfl 1), (Blks.free hHB 1 rfl 1)]
            · rintro lst a W' ⟨b0, b1, b2, b3, b4, b5, b6, b7, b8, b9, b10, b11, b12, b13, rfl, rfl, k0, k1, hHB, hHW⟩ hall
              have a0 : b0 = true := hall 0 (by decide)
              have a1 : b1 = true := hall 1 (by decide)
              have a2 : b2 = true := hall 2 (by decide)
              have a3 : b3 = true := hall 3 (by decide)
              have a4 : b4 = true := hall 4 (by decide)
              have a5 : b5 = true := hall 5 (by decide)
              have a6 : b6 = true := hall 6 (by decide)
              have a7 : b7 = true := hall 7 (by decide)
              have a8 : b8 = true := hall 8 (by decide)
              have a9 : b9 = true := hall 9 (by decide)
              have a10 : b10 = true := hall 10 (by decide)
              have a11 : b11 = true := hall 11 (by decide)
              have a12 : b12 = true := hall 12 (by decide)
              have a13 : b13 = true := hall 13 (by decide)
              subst a0 a1 a2 a3 a4 a5 a6 a7 a8 a9 a10 a11 a12 a13
              clear k0 k1
              clear hall
              have HB : Blks [(wr.heap.size, .cells #[.int .i64 ((rd_T33 pts i).f0), .int .i64 ((rd_T33 pts i).f1), .bool (rd_T33 pts i).f2] 33 (0, 0)), ((w.heap.size + 1 + 1), .cells #[.int .i64 (max ((rd_T33 pts i).f0) ((rd_T33 pts i).f0)), .int .i64 (max ((rd_T33 pts i).f1) ((rd_T33 pts i).f1)), .bool false] 33 (0, 0)), ((w.heap.size + 1), .cells #[.int .i64 (min ((rd_T33 pts i).f0) ((rd_T33 pts i).f0)), .int .i64 (min ((rd_T33 pts i).f1) ((rd_T33 pts i).f1)), .bool false] 33 (0, 0)), (w.heap.size, .cells #[.slice (some ad0) pts.length c0, v1] 25 (0, 0))] W' := hHB
              have HW : Below w.heap.size w W' := hHW
              clear hHB hHW
              go_wp2
              go_roundw
              case rel =>
                refine ⟨i + 1, by omega, by simp, ⟨?_, HW⟩⟩
                have hst : boxSt pts (i + 1) = (⟨min ((rd_T33 pts i).f0) ((rd_T33 pts i).f0), min ((rd_T33 pts i).f1) ((rd_T33 pts i).f1), false⟩, ⟨max ((rd_T33 pts i).f0) ((rd_T33 pts i).f0), max ((rd_T33 pts i).f1) ((rd_T33 pts i).f1), false⟩) := by rw [boxSt_succ]; rw [HZ.out]; simp [boxStep]
                rw [hst]
                exact HB.tail
              case measure => simp [intOf]; omega
      · have hz' : ((i : Int) == 0) = false := by simpa using hz
        have HZ := Lib.hid hz
        clear hz
        go_wp2
        replace HB := (HB.alloc (.cells #[.int .i64 (rd_T33 pts i).f0, .int .i64 (rd_T33 pts i).f1, .bool (rd_T33 pts i).f2] 33))
        replace HW := (HW.alloc HW.size (.cells #[.int .i64 (rd_T33 pts i).f0, .int .i64 (rd_T33 pts i).f1, .bool (rd_T33 pts i).f2] 33))
        refine Go.Proofs.YtbmklpcheopgoaaReg.reg_inv (by rfl) [0, 1, 2, 3, 4, 5, 6, 7, 8, 9, 10, 11, 12, 13] (by kernel_rfl) (by kernel_rfl)
          (fun lst a W' => ∃ (b0 b1 b2 b3 b4 b5 b6 b7 b8 b9 b10 b11 b12 b13 : Bool), lst = #[b0, b1, b2, b3, b4, b5, b6, b7, b8, b9, b10, b11, b12, b13] ∧ a = ⟨#[.agg #[.slice (some ad0) pts.length c0, v1], .pointer (some ⟨w.heap.size, 0, none⟩), .pointer (some ⟨(w.heap.size + 1), 0, none⟩), .pointer (some ⟨(w.heap.size + 1 + 1), 0, none⟩), .bool false, .int .i64 i, .pointer (some ⟨wr.heap.size, 0, none⟩), .pointer (some ⟨w.heap.size, 0, none⟩), .slice (some ad0) pts.length c0, .int .i64 pts.length, .int .i64 i, .bool true, .int .i64 i, .pointer (some (ad0.add (i * 3))), .agg #[.int .i64 (rd_T33 pts i).f0, .int .i64 (rd_T33 pts i).f1, .bool (rd_T33 pts i).f2], .int .i64 i, .bool false, u17, u18, u19, u20, u21, u22, u23, u24, u25, u26, (cond b0 (.pointer (some ⟨(w.heap.size + 1), 0, none⟩)) u27), (cond b1 (.int .i64 ((boxSt pts i).1.f0)) u28), (cond b2 (.pointer (some ⟨wr.heap.size, 0, none⟩)) u29), (cond b3 (.int .i64 ((rd_T33 pts i).f0)) u30), (cond b4 (.int .i64 (min ((boxSt pts i).1.f0) ((rd_T33 pts i).f0))) u31), (cond b5 (.pointer (some ⟨(w.heap.size + 1), 1, none⟩)) u32), (cond b6 (.int .i64 ((boxSt pts i).1.f1)) u33), (cond b7 (.pointer (some ⟨wr.heap.size, 1, none⟩)) u34), (cond b8 (.int .i64 ((rd_T33 pts i).f1)) u35), (cond b9 (.int .i64 (min ((boxSt pts i).1.f1) ((rd_T33 pts i).f1))) u36), (cond b10 (.pointer (some ⟨(w.heap.size + 1), 0, none⟩)) u37), (cond b12 (.pointer (some ⟨(w.heap.size + 1), 1, none⟩)) u38), u39, u40, u41, u42, u43, u44, u45, u46, u47, u48, u49, u50, u51, undef, undef, undef, undef, undef, undef], []⟩ ∧ (b11 = true → b1 = true) ∧ (b13 = true → b6 = true) ∧ (Blks [(wr.heap.size, .cells #[.int .i64 ((rd_T33 pts i).f0), .int .i64 ((rd_T33 pts i).f1), .bool (rd_T33 pts i).f2] 33 (0, 0)), ((w.heap.size + 1 + 1), .cells #[.int .i64 ((boxSt pts i).2.f0), .int .i64 ((boxSt pts i).2.f1), .bool ((boxSt pts i).2.f2)] 33 (0, 0)), ((w.heap.size + 1), .cells #[cond b11 (.int .i64 (min ((boxSt pts i).1.f0) ((rd_T33 pts i).f0))) (.int .i64 ((boxSt pts i).1.f0)), cond b13 (.int .i64 (min ((boxSt pts i).1.f1) ((rd_T33 pts i).f1))) (.int .i64 ((boxSt pts i).1.f1)), .bool ((boxSt pts i).1.f2)] 33 (0, 0)), (w.heap.size, .cells #[.slice (some ad0) pts.length c0, v1] 25 (0, 0))] W') ∧ (Below w.heap.size w W')) ?_ ?_ ?_ ?_
        · rintro lst a W' ⟨b0, b1, b2, b3, b4, b5, b6, b7, b8, b9, b10, b11, b12, b13, rfl, _⟩
          rfl
        · exact ⟨false, false, false, false, false, false, false, false, false, false, false, false, false, false, rfl, rfl, (fun h => Bool.noConfusion h), (fun h => Bool.noConfusion h), HB.drew, below_drew HW⟩
        · rintro lst a W' i o ⟨b0, b1, b2, b3, b4, b5, b6, b7, b8, b9, b10, b11, b12, b13, rfl, rfl, k0, k1, hHB, hHW⟩ ho hf hd K hK
          have hi : i < 14 := (Array.getElem?_eq_some_iff.1 ho).1
          have ho2 := ho
          rcases (show i = 0 ∨ i = 1 ∨ i = 2 ∨ i = 3 ∨ i = 4 ∨ i = 5 ∨ i = 6 ∨ i = 7 ∨ i = 8 ∨ i = 9 ∨ i = 10 ∨ i = 11 ∨ i = 12 ∨ i = 13 by omega) with rfl | rfl | rfl | rfl | rfl | rfl | rfl | rfl | rfl | rfl | rfl | rfl | rfl | rfl
          · simp only [List.getElem?_toArray, List.getElem?_cons_succ, List.getElem?_cons_zero, Option.some.injEq] at ho
            subst ho
            replace hf : b0 = false := hf
            subst hf
            refine Go.Proofs.YtbmklpcheopgoaaReg.op_val ho2 rfl (v := .pointer (some ⟨(w.heap.size + 1), 0, none⟩)) (w1 := W') ?_ (hK _ _ ⟨true, b1, b2, b3, b4, b5, b6, b7, b8, b9, b10, b11, b12, b13, rfl, rfl, (k0), (k1), hHB, hHW⟩)
            simp [go_sem, hu]
          · simp only [List.getElem?_toArray, List.getElem?_cons_succ, List.getElem?_cons_zero, Option.some.injEq] at ho
            subst ho
            replace hf : b1 = false := hf
            have d0 : b0 = true := hd ⟨0, .data⟩ (by simp) rfl
            subst d0
            have n11 : b11 = false := Bool.eq_false_iff.mpr (fun h => absurd (k0 h) (by rw [hf]; decide))
            subst n11
            subst hf
            refine Go.Proofs.YtbmklpcheopgoaaReg.op_val ho2 rfl (v := .int .i64 ((boxSt pts i).1.f0)) (w1 := W') ?_ (hK _ _ ⟨true, true, b2, b3, b4, b5, b6, b7, b8, b9, b10, false, b12, b13, rfl, rfl, (fun _ => rfl), (k1), hHB, hHW⟩)
            simp [go_sem, hu, (Blks.cell hHB 2 rfl 0)]
          · simp only [List.getElem?_toArray, List.getElem?_cons_succ, List.getElem?_cons_zero, Option.some.injEq] at ho
            subst ho
            replace hf : b2 = false := hf
            subst hf
            refine Go.Proofs.YtbmklpcheopgoaaReg.op_val ho2 rfl (v := .pointer (some ⟨wr.heap.size, 0, none⟩)) (w1 := W') ?_ (hK _ _ ⟨b0, b1, true, b3, b4, b5, b6, b7, b8, b9, b10, b11, b12, b13, rfl, rfl, (k0), (k1), hHB, hHW⟩)
            simp [go_sem, hu]
          · simp only [List.getElem?_toArray, List.getElem?_cons_succ, List.getElem?_cons_zero, Option.some.injEq] at ho
            subst ho
            replace hf : b3 = false := hf
            have d2 : b2 = true := hd ⟨2, .data⟩ (by simp) rfl
            subst d2
            subst hf
            refine Go.Proofs.YtbmklpcheopgoaaReg.op_val ho2 rfl (v := .int .i64 ((rd_T33 pts i).f0)) (w1 := W') ?_ (hK _ _ ⟨b0, b1, true, true, b4, b5, b6, b7, b8, b9, b10, b11, b12, b13, rfl, rfl, (k0), (k1), hHB, hHW⟩)
            simp [go_sem, hu, (Blks.cell hHB 0 rfl 0)]
          · simp only [List.getElem?_toArray, List.getElem?_cons_succ, List.getElem?_cons_zero, Option.some.injEq] at ho
            subst ho
            replace hf : b4 = false := hf
            have d1 : b1 = true := hd ⟨1, .data⟩ (by simp) rfl
            have d3 : b3 = true := hd ⟨3, .data⟩ (by simp) rfl
            subst d1
            subst d3
            subst hf
            refine Go.Proofs.YtbmklpcheopgoaaReg.op_val ho2 rfl (v := .int .i64 (min ((boxSt pts i).1.f0) ((rd_T33 pts i).f0))) (w1 := W') ?_ (hK _ _ ⟨b0, true, b2, true, true, b5, b6, b7, b8, b9, b10, b11, b12, b13, rfl, rfl, (fun _ => rfl), (k1), hHB, hHW⟩)
            simp [go_sem, hu] <;> omega
          · simp only [List.getElem?_toArray, List.getElem?_cons_succ, List.getElem?_cons_zero, Option.some.injEq] at ho
            subst ho
            replace hf : b5 = false := hf
            subst hf
            refine Go.Proofs.YtbmklpcheopgoaaReg.op_val ho2 rfl (v := .pointer (some ⟨(w.heap.size + 1), 1, none⟩)) (w1 := W') ?_ (hK _ _ ⟨b0, b1, b2, b3, b4, true, b6, b7, b8, b9, b10, b11, b12, b13, rfl, rfl, (k0), (k1), hHB, hHW⟩)
            simp [go_sem, hu]
          · simp only [List.getElem?_toArray, List.getElem?_cons_succ, List.getElem?_cons_zero, Option.some.injEq] at ho
            subst ho
            replace hf : b6 = false := hf
            have d5 : b5 = true := hd ⟨5, .data⟩ (by simp) rfl
            subst d5
            have n13 : b13 = false := Bool.eq_false_iff.mpr (fun h => absurd (k1 h) (by rw [hf]; decide))
            subst n13
            subst hf
            refine Go.Proofs.YtbmklpcheopgoaaReg.op_val ho2 rfl (v := .int .i64 ((boxSt pts i).1.f1)) (w1 := W') ?_ (hK _ _ ⟨b0, b1, b2, b3, b4, true, true, b7, b8, b9, b10, b11, b12, false, rfl, rfl, (k0), (fun _ => rfl), hHB, hHW⟩)
            simp [go_sem, hu, (Blks.cell hHB 2 rfl 1)]
          · simp only [List.getElem?_toArray, List.getElem?_cons_succ, List.getElem?_cons_zero, Option.some.injEq] at ho
            subst ho
            replace hf : b7 = false := hf
            subst hf
            refine Go.Proofs.YtbmklpcheopgoaaReg.op_val ho2 rfl (v := .pointer (some ⟨wr.heap.size, 1, none⟩)) (w1 := W') ?_ (hK _ _ ⟨b0, b1, b2, b3, b4, b5, b6, true, b8, b9, b10, b11, b12, b13, rfl, rfl, (k0), (k1), hHB, hHW⟩)
            simp [go_sem, hu]
          · simp only [List.getElem?_toArray, List.getElem?_cons_succ, List.getElem?_cons_zero, Option.some.injEq] at ho
            subst ho
            replace hf : b8 = false := hf
            have d7 : b7 = true := hd ⟨7, .data⟩ (by simp) rfl
            subst d7
            subst hf
            refine Go.Proofs.YtbmklpcheopgoaaReg.op_val ho2 rfl (v := .int .i64 ((rd_T33 pts i).f1)) (w1 := W') ?_ (hK _ _ ⟨b0, b1, b2, b3, b4, b5, b6, true, true, b9, b10, b11, b12, b13, rfl, rfl, (k0), (k1), hHB, hHW⟩)
            simp [go_sem, hu, (Blks.cell hHB 0 rfl 1)]
          · simp only [List.getElem?_toArray, List.getElem?_cons_succ, List.getElem?_cons_zero, Option.some.injEq] at ho
            subst ho
            replace hf : b9 = false := hf
            have d6 : b6 = true := hd ⟨6, .data⟩ (by simp) rfl
            have d8 : b8 = true := hd ⟨8, .data⟩ (by simp) rfl
            subst d6
            subst d8
            subst hf
            refine Go.Proofs.YtbmklpcheopgoaaReg.op_val ho2 rfl (v := .int .i64 (min ((boxSt pts i).1.f1) ((rd_T33 pts i).f1))) (w1 := W') ?_ (hK _ _ ⟨b0, b1, b2, b3, b4, b5, true, b7, true, true, b10, b11, b12, b13, rfl, rfl, (k0), (fun _ => rfl), hHB, hHW⟩)
            simp [go_sem, hu] <;> omega
          · simp only [List.getElem?_toArray, List.getElem?_cons_succ, List.getElem?_cons_zero, Option.some.injEq] at ho
            subst ho
            replace hf : b10 = false := hf
            have d0 : b0 = true := hd ⟨0, .phase⟩ (by simp) rfl
            have d1 : b1 = true := hd ⟨1, .phase⟩ (by simp) rfl
            have d2 : b2 = true := hd ⟨2, .phase⟩ (by simp) rfl
            have d3 : b3 = true := hd ⟨3, .phase⟩ (by simp) rfl
            have d4 : b4 = true := hd ⟨4, .phase⟩ (by simp) rfl
            have d5 : b5 = true := hd ⟨5, .phase⟩ (by simp) rfl
            have d6 : b6 = true := hd ⟨6, .phase⟩ (by simp) rfl
            subst d0
            subst d1
            subst d2
            subst d3
            subst d4
            subst d5
            subst d6
            subst hf
            refine Go.Proofs.YtbmklpcheopgoaaReg.op_val ho2 rfl (v := .pointer (some ⟨(w.heap.size + 1), 0, none⟩)) (w1 := W') ?_ (hK _ _ ⟨true, true, true, true, true, true, true, b7, b8, b9, true, b11, b12, b13, rfl, rfl, (fun _ => rfl), (fun _ => rfl), hHB, hHW⟩)
            simp [go_sem, hu]
          · simp only [List.getElem?_toArray, List.getElem?_cons_succ, List.getElem?_cons_zero, Option.some.injEq] at ho
            subst ho
            replace hf : b11 = false := hf
            have d0 : b0 = true := hd ⟨0, .phase⟩ (by simp) rfl
            have d1 : b1 = true := hd ⟨1, .phase⟩ (by simp) rfl
            have d2 : b2 = true := hd ⟨2, .phase⟩ (by simp) rfl
            have d3 : b3 = true := hd ⟨3, .phase⟩ (by simp) rfl
            have d4 : b4 = true := hd ⟨4, .data⟩ (by simp) rfl
            have d5 : b5 = true := hd ⟨5, .phase⟩ (by simp) rfl
            have d6 : b6 = true := hd ⟨6, .phase⟩ (by simp) rfl
            have d10 : b10 = true := hd ⟨10, .data⟩ (by simp) rfl
            subst d0
            subst d1
            subst d2
            subst d3
            subst d4
            subst d5
            subst d6
            subst d10
            subst hf
            refine Go.Proofs.YtbmklpcheopgoaaReg.op_skip ho2 rfl (w1 := W'.setCell ⟨(w.heap.size + 1), 0, none⟩ (.int .i64 (min ((boxSt pts i).1.f0) ((rd_T33 pts i).f0)))) ?_ (hK _ _ ⟨true, true, true, true, true, true, true, b7, b8, b9, true, true, b12, b13, rfl, rfl, (fun _ => rfl), (fun _ => rfl), Blks.set hHB 2 rfl 0 (.int .i64 (min ((boxSt pts i).1.f0) ((rd_T33 pts i).f0))), (Below.setCell hHW (by dsimp only; omega) (.int .i64 (min ((boxSt pts i).1.f0) ((rd_T33 pts i).f0))))⟩)
            simp [go_sem, hu, (Blks.cell hHB 2 rfl 0), (Blks.free hHB 2 rfl 0)]
          · simp only [List.getElem?_toArray, List.getElem?_cons_succ, List.getElem?_cons_zero, Option.some.injEq] at ho
            subst ho
            replace hf : b12 = false := hf
            have d0 : b0 = true := hd ⟨0, .phase⟩ (by simp) rfl
            have d1 : b1 = true := hd ⟨1, .phase⟩ (by simp) rfl
            have d2 : b2 = true := hd ⟨2, .phase⟩ (by simp) rfl
            have d3 : b3 = true := hd ⟨3, .phase⟩ (by simp) rfl
            have d4 : b4 = true := hd ⟨4, .phase⟩ (by simp) rfl
            have d5 : b5 = true := hd ⟨5, .phase⟩ (by simp) rfl
            have d6 : b6 = true := hd ⟨6, .phase⟩ (by simp) rfl
            have d7 : b7 = true := hd ⟨7, .phase⟩ (by simp) rfl
            have d8 : b8 = true := hd ⟨8, .phase⟩ (by simp) rfl
            have d9 : b9 = true := hd ⟨9, .phase⟩ (by simp) rfl
            have d10 : b10 = true := hd ⟨10, .phase⟩ (by simp) rfl
            have d11 : b11 = true := hd ⟨11, .phase⟩ (by simp) rfl
            subst d0
            subst d1
            subst d2
            subst d3
            subst d4
            subst d5
            subst d6
            subst d7
            subst d8
            subst d9
            subst d10
            subst d11
            subst hf
            refine Go.Proofs.YtbmklpcheopgoaaReg.op_val ho2 rfl (v := .pointer (some ⟨(w.heap.size + 1), 1, none⟩)) (w1 := W') ?_ (hK _ _ ⟨true, true, true, true, true, true, true, true, true, true, true, true, true, b13, rfl, rfl, (fun _ => rfl), (fun _ => rfl), hHB, hHW⟩)
            simp [go_sem, hu]
          · simp only [List.getElem?_toArray, List.getElem?_cons_succ, List.getElem?_cons_zero, Option.some.injEq] at ho
            subst ho
            replace hf : b13 = false := hf
            have d0 : b0 = true := hd ⟨0, .phase⟩ (by simp) rfl
            have d1 : b1 = true := hd ⟨1, .phase⟩ (by simp) rfl
            have d2 : b2 = true := hd ⟨2, .phase⟩ (by simp) rfl
            have d3 : b3 = true := hd ⟨3, .phase⟩ (by simp) rfl
            have d4 : b4 = true := hd ⟨4, .phase⟩ (by simp) rfl
            have d5 : b5 = true := hd ⟨5, .phase⟩ (by simp) rfl
            have d6 : b6 = true := hd ⟨6, .phase⟩ (by simp) rfl
            have d7 : b7 = true := hd ⟨7, .phase⟩ (by simp) rfl
            have d8 : b8 = true := hd ⟨8, .phase⟩ (by simp) rfl
            have d9 : b9 = true := hd ⟨9, .data⟩ (by simp) rfl
            have d10 : b10 = true := hd ⟨10, .phase⟩ (by simp) rfl
            have d11 : b11 = true := hd ⟨11, .chain⟩ (by simp) rfl
            have d12 : b12 = true := hd ⟨12, .data⟩ (by simp) rfl
            subst d0
            subst d1
            subst d2
            subst d3
            subst d4
            subst d5
            subst d6
            subst d7
            subst d8
            subst d9
            subst d10
            subst d11
            subst d12
            subst hf
            refine Go.Proofs.YtbmklpcheopgoaaReg.op_skip ho2 rfl (w1 := W'.setCell ⟨(w.heap.size + 1), 1, none⟩ (.int .i64 (min ((boxSt pts i).1.f1) ((rd_T33 pts i).f1)))) ?_ (hK _ _ ⟨true, true, true, true, true, true, true, true, true, true, true, true, true, true, rfl, rfl, (fun _ => rfl), (fun _ => rfl), Blks.set hHB 2 rfl 1 (.int .i64 (min ((boxSt pts i).1.f1) ((rd_T33 pts i).f1))), (Below.setCell hHW (by dsimp only; omega) (.int .i64 (min ((boxSt pts i).1.f1) ((rd_T33 pts i).f1))))⟩)
            simp [go_sem, hu, (Blks.cell hHB 2 rfl 1), (Blks.free hHB 2 rfl 1)]
        · rintro lst a W' ⟨b0, b1, b2, b3, b4, b5, b6, b7, b8, b9, b10, b11, b12, b13, rfl, rfl, k0, k1, hHB, hHW⟩ hall
          have a0 : b0 = true := hall 0 (by decide)
          have a1 : b1 = true := hall 1 (by decide)
          have a2 : b2 = true := hall 2 (by decide)
          have a3 : b3 = true := hall 3 (by decide)
          have a4 : b4 = true := hall 4 (by decide)
          have a5 : b5 = true := hall 5 (by decide)
          have a6 : b6 = true := hall 6 (by decide)
          have a7 : b7 = true := hall 7 (by decide)
          have a8 : b8 = true := hall 8 (by decide)
          have a9 : b9 = true := hall 9 (by decide)
          have a10 : b10 = true := hall 10 (by decide)
          have a11 : b11 = true := hall 11 (by decide)
          have a12 : b12 = true := hall 12 (by decide)
          have a13 : b13 = true := hall 13 (by decide)
          subst a0 a1 a2 a3 a4 a5 a6 a7 a8 a9 a10 a11 a12 a13
          clear k0 k1
          clear hall
          have HB : Blks [(wr.heap.size, .cells #[.int .i64 ((rd_T33 pts i).f0), .int .i64 ((rd_T33 pts i).f1), .bool (rd_T33 pts i).f2] 33 (0, 0)), ((w.heap.size + 1 + 1), .cells #[.int .i64 ((boxSt pts i).2.f0), .int .i64 ((boxSt pts i).2.f1), .bool ((boxSt pts i).2.f2)] 33 (0, 0)), ((w.heap.size + 1), .cells #[.int .i64 (min ((boxSt pts i).1.f0) ((rd_T33 pts i).f0)), .int .i64 (min ((boxSt pts i).1.f1) ((rd_T33 pts i).f1)), .bool ((boxSt pts i).1.f2)] 33 (0, 0)), (w.heap.size, .cells #[.slice (some ad0) pts.length c0, v1] 25 (0, 0))] W' := hHB
          have HW : Below w.heap.size w W' := hHW
          clear hHB hHW
          go_wp2
          refine Go.Proofs.YtbmklpcheopgoaaReg.reg_inv (by rfl) [0, 1, 2, 3, 4, 5, 6, 7, 8, 9, 10, 11, 12, 13] (by kernel_rfl) (by kernel_rfl)
            (fun lst a W' => ∃ (b0 b1 b2 b3 b4 b5 b6 b7 b8 b9 b10 b11 b12 b13 : Bool), lst = #[b0, b1, b2, b3, b4, b5, b6, b7, b8, b9, b10, b11, b12, b13] ∧ a = ⟨#[.agg #[.slice (some ad0) pts.length c0, v1], .pointer (some ⟨w.heap.size, 0, none⟩), .pointer (some ⟨(w.heap.size + 1), 0, none⟩), .pointer (some ⟨(w.heap.size + 1 + 1), 0, none⟩), .bool false, .int .i64 i, .pointer (some ⟨wr.heap.size, 0, none⟩), .pointer (some ⟨w.heap.size, 0, none⟩), .slice (some ad0) pts.length c0, .int .i64 pts.length, .int .i64 i, .bool true, .int .i64 i, .pointer (some (ad0.add (i * 3))), .agg #[.int .i64 (rd_T33 pts i).f0, .int .i64 (rd_T33 pts i).f1, .bool (rd_T33 pts i).f2], .int .i64 i, .bool false, u17, u18, u19, u20, u21, u22, u23, u24, u25, u26, .pointer (some ⟨(w.heap.size + 1), 0, none⟩), .int .i64 ((boxSt pts i).1.f0), .pointer (some ⟨wr.heap.size, 0, none⟩), .int .i64 ((rd_T33 pts i).f0), .int .i64 (min ((boxSt pts i).1.f0) ((rd_T33 pts i).f0)), .pointer (some ⟨(w.heap.size + 1), 1, none⟩), .int .i64 ((boxSt pts i).1.f1), .pointer (some ⟨wr.heap.size, 1, none⟩), .int .i64 ((rd_T33 pts i).f1), .int .i64 (min ((boxSt pts i).1.f1) ((rd_T33 pts i).f1)), .pointer (some ⟨(w.heap.size + 1), 0, none⟩), .pointer (some ⟨(w.heap.size + 1), 1, none⟩), (cond b0 (.pointer (some ⟨(w.heap.size + 1 + 1), 0, none⟩)) u39), (cond b1 (.int .i64 ((boxSt pts i).2.f0)) u40), (cond b2 (.pointer (some ⟨wr.heap.size, 0, none⟩)) u41), (cond b3 (.int .i64 ((rd_T33 pts i).f0)) u42), (cond b4 (.int .i64 (max ((boxSt pts i).2.f0) ((rd_T33 pts i).f0))) u43), (cond b5 (.pointer (some ⟨(w.heap.size + 1 + 1), 1, none⟩)) u44), (cond b6 (.int .i64 ((boxSt pts i).2.f1)) u45), (cond b7 (.pointer (some ⟨wr.heap.size, 1, none⟩)) u46), (cond b8 (.int .i64 ((rd_T33 pts i).f1)) u47), (cond b9 (.int .i64 (max ((boxSt pts i).2.f1) ((rd_T33 pts i).f1))) u48), (cond b10 (.pointer (some ⟨(w.heap.size + 1 + 1), 0, none⟩)) u49), (cond b12 (.pointer (some ⟨(w.heap.size + 1 + 1), 1, none⟩)) u50), u51, undef, undef, undef, undef, undef, undef], []⟩ ∧ (b11 = true → b1 = true) ∧ (b13 = true → b6 = true) ∧ (Blks [(wr.heap.size, .cells #[.int .i64 ((rd_T33 pts i).f0), .int .i64 ((rd_T33 pts i).f1), .bool (rd_T33 pts i).f2] 33 (0, 0)), ((w.heap.size + 1 + 1), .cells #[cond b11 (.int .i64 (max ((boxSt pts i).2.f0) ((rd_T33 pts i).f0))) (.int .i64 ((boxSt pts i).2.f0)), cond b13 (.int .i64 (max ((boxSt pts i).2.f1) ((rd_T33 pts i).f1))) (.int .i64 ((boxSt pts i).2.f1)), .bool ((boxSt pts i).2.f2)] 33 (0, 0)), ((w.heap.size + 1), .cells #[.int .i64 (min ((boxSt pts i).1.f0) ((rd_T33 pts i).f0)), .int .i64 (min ((boxSt pts i).1.f1) ((rd_T33 pts i).f1)), .bool ((boxSt pts i).1.f2)] 33 (0, 0)), (w.heap.size, .cells #[.slice (some ad0) pts.length c0, v1] 25 (0, 0))] W') ∧ (Below w.heap.size w W')) ?_ ?_ ?_ ?_
          · rintro lst a W' ⟨b0, b1, b2, b3, b4, b5, b6, b7, b8, b9, b10, b11, b12, b13, rfl, _⟩
            rfl
          · exact ⟨false, false, false, false, false, false, false, false, false, false, false, false, false, false, rfl, rfl, (fun h => Bool.noConfusion h), (fun h => Bool.noConfusion h), HB.drew, below_drew HW⟩
          · rintro lst a W' i o ⟨b0, b1, b2, b3, b4, b5, b6, b7, b8, b9, b10, b11, b12, b13, rfl, rfl, k0, k1, hHB, hHW⟩ ho hf hd K hK
            have hi : i < 14 := (Array.getElem?_eq_some_iff.1 ho).1
            have ho2 := ho
            rcases (show i = 0 ∨ i = 1 ∨ i = 2 ∨ i = 3 ∨ i = 4 ∨ i = 5 ∨ i = 6 ∨ i = 7 ∨ i = 8 ∨ i = 9 ∨ i = 10 ∨ i = 11 ∨ i = 12 ∨ i = 13 by omega) with rfl | rfl | rfl | rfl | rfl | rfl | rfl | rfl | rfl | rfl | rfl | rfl | rfl | rfl
            · simp only [List.getElem?_toArray, List.getElem?_cons_succ, List.getElem?_cons_zero, Option.some.injEq] at ho
              subst ho
              replace hf : b0 = false := hf
              subst hf
              refine Go.Proofs.YtbmklpcheopgoaaReg.op_val ho2 rfl (v := .pointer (some ⟨(w.heap.size + 1 + 1), 0, none⟩)) (w1 := W') ?_ (hK _ _ ⟨true, b1, b2, b3, b4, b5, b6, b7, b8, b9, b10, b11, b12, b13, rfl, rfl, (k0), (k1), hHB, hHW⟩)
              simp [go_sem, hu]
            · simp only [List.getElem?_toArray, List.getElem?_cons_succ, List.getElem?_cons_zero, Option.some.injEq] at ho
              subst ho
              replace hf : b1 = false := hf
              have d0 : b0 = true := hd ⟨0, .data⟩ (by simp) rfl
              subst d0
              have n11 : b11 = false := Bool.eq_false_iff.mpr (fun h => absurd (k0 h) (by rw [hf]; decide))
              subst n11
              subst hf
              refine Go.Proofs.YtbmklpcheopgoaaReg.op_val ho2 rfl (v := .int .i64 ((boxSt pts i).2.f0)) (w1 := W') ?_ (hK _ _ ⟨true, true, b2, b3, b4, b5, b6, b7, b8, b9, b10, false, b12, b13, rfl, rfl, (fun _ => rfl), (k1), hHB, hHW⟩)
              simp [go_sem, hu, (Blks.cell hHB 1 rfl 0)]
            · simp only [List.getElem?_toArray, List.getElem?_cons_succ, List.getElem?_cons_zero, Option.some.injEq] at ho
              subst ho
              replace hf : b2 = false := hf
              subst hf
              refine Go.Proofs.YtbmklpcheopgoaaReg.op_val ho2 rfl (v := .pointer (some ⟨wr.heap.size, 0, none⟩)) (w1 := W') ?_ (hK _ _ ⟨b0, b1, true, b3, b4, b5, b6, b7, b8, b9, b10, b11, b12, b13, rfl, rfl, (k0), (k1), hHB, hHW⟩)
              simp [go_sem, hu]
            · simp only [List.getElem?_toArray, List.getElem?_cons_succ, List.getElem?_cons_zero, Option.some.injEq] at ho
              subst ho
              replace hf : b3 = false := hf
              have d2 : b2 = true := hd ⟨2, .data⟩ (by simp) rfl
              subst d2
              subst hf
              refine Go.Proofs.YtbmklpcheopgoaaReg.op_val ho2 rfl (v := .int .i64 ((rd_T33 pts i).f0)) (w1 := W') ?_ (hK _ _ ⟨b0, b1, true, true, b4, b5, b6, b7, b8, b9, b10, b11, b12, b13, rfl, rfl, (k0), (k1), hHB, hHW⟩)
              simp [go_sem, hu, (Blks.cell hHB 0 rfl 0)]
            · simp only [List.getElem?_toArray, List.getElem?_cons_succ, List.getElem?_cons_zero, Option.some.injEq] at ho
              subst ho
              replace hf : b4 = false := hf
              have d1 : b1 = true := hd ⟨1, .data⟩ (by simp) rfl
              have d3 : b3 = true := hd ⟨3, .data⟩ (by simp) rfl
              subst d1
              subst d3
              subst hf
              refine Go.Proofs.YtbmklpcheopgoaaReg.op_val ho2 rfl (v := .int .i64 (max ((boxSt pts i).2.f0) ((rd_T33 pts i).f0))) (w1 := W') ?_ (hK _ _ ⟨b0, true, b2, true, true, b5, b6, b7, b8, b9, b10, b11, b12, b13, rfl, rfl, (fun _ => rfl), (k1), hHB, hHW⟩)
              simp [go_sem, hu] <;> omega
            · simp only [List.getElem?_toArray, List.getElem?_cons_succ, List.getElem?_cons_zero, Option.some.injEq] at ho
              subst ho
              replace hf : b5 = false := hf
              subst hf
              refine Go.Proofs.YtbmklpcheopgoaaReg.op_val ho2 rfl (v := .pointer (some ⟨(w.heap.size + 1 + 1), 1, none⟩)) (w1 := W') ?_ (hK _ _ ⟨b0, b1, b2, b3, b4, true, b6, b7, b8, b9, b10, b11, b12, b13, rfl, rfl, (k0), (k1), hHB, hHW⟩)
              simp [go_sem, hu]
            · simp only [List.getElem?_toArray, List.getElem?_cons_succ, List.getElem?_cons_zero, Option.some.injEq] at ho
              subst ho
              replace hf : b6 = false := hf
              have d5 : b5 = true := hd ⟨5, .data⟩ (by simp) rfl
              subst d5
              have n13 : b13 = false := Bool.eq_false_iff.mpr (fun h => absurd (k1 h) (by rw [hf]; decide))
              subst n13
              subst hf
              refine Go.Proofs.YtbmklpcheopgoaaReg.op_val ho2 rfl (v := .int .i64 ((boxSt pts i).2.f1)) (w1 := W') ?_ (hK _ _ ⟨b0, b1, b2, b3, b4, true, true, b7, b8, b9, b10, b11, b12, false, rfl, rfl, (k0), (fun _ => rfl), hHB, hHW⟩)
              simp [go_sem, hu, (Blks.cell hHB 1 rfl 1)]
            · simp only [List.getElem?_toArray, List.getElem?_cons_succ, List.getElem?_cons_zero, Option.some.injEq] at ho
              subst ho
              replace hf : b7 = false := hf
              subst hf
              refine Go.Proofs.YtbmklpcheopgoaaReg.op_val ho2 rfl (v := .pointer (some ⟨wr.heap.size, 1, none⟩)) (w1 := W') ?_ (hK _ _ ⟨b0, b1, b2, b3, b4, b5, b6, true, b8, b9, b10, b11, b12, b13, rfl, rfl, (k0), (k1), hHB, hHW⟩)
              simp [go_sem, hu]
            · simp only [List.getElem?_toArray, List.getElem?_cons_succ, List.getElem?_cons_zero, Option.some.injEq] at ho
              subst ho
              replace hf : b8 = false := hf
              have d7 : b7 = true := hd ⟨7, .data⟩ (by simp) rfl
              subst d7
              subst hf
              refine Go.Proofs.YtbmklpcheopgoaaReg.op_val ho2 rfl (v := .int .i64 ((rd_T33 pts i).f1)) (w1 := W') ?_ (hK _ _ ⟨b0, b1, b2, b3, b4, b5, b6, true, true, b9, b10, b11, b12, b13, rfl, rfl, (k0), (k1), hHB, hHW⟩)
              simp [go_sem, hu, (Blks.cell hHB 0 rfl 1)]
            · simp only [List.getElem?_toArray, List.getElem?_cons_succ, List.getElem?_cons_zero, Option.some.injEq] at ho
              subst ho
              replace hf : b9 = false := hf
              have d6 : b6 = true := hd ⟨6, .data⟩ (by simp) rfl
              have d8 : b8 = true := hd ⟨8, .data⟩ (by simp) rfl
              subst d6
              subst d8
              subst hf
              refine Go.Proofs.YtbmklpcheopgoaaReg.op_val ho2 rfl (v := .int .i64 (max ((boxSt pts i).2.f1) ((rd_T33 pts i).f1))) (w1 := W') ?_ (hK _ _ ⟨b0, b1, b2, b3, b4, b5, true, b7, true, true, b10, b11, b12, b13, rfl, rfl, (k0), (fun _ => rfl), hHB, hHW⟩)
              simp [go_sem, hu] <;> omega
            · simp only [List.getElem?_toArray, List.getElem?_cons_succ, List.getElem?_cons_zero, Option.some.injEq] at ho
              subst ho
              replace hf : b10 = false := hf
              have d0 : b0 = true := hd ⟨0, .phase⟩ (by simp) rfl
              have d1 : b1 = true := hd ⟨1, .phase⟩ (by simp) rfl
              have d2 : b2 = true := hd ⟨2, .phase⟩ (by simp) rfl
              have d3 : b3 = true := hd ⟨3, .phase⟩ (by simp) rfl
              have d4 : b4 = true := hd ⟨4, .phase⟩ (by simp) rfl
              have d5 : b5 = true := hd ⟨5, .phase⟩ (by simp) rfl
              have d6 : b6 = true := hd ⟨6, .phase⟩ (by simp) rfl
              subst d0
              subst d1
              subst d2
              subst d3
              subst d4
              subst d5
              subst d6
              subst hf
              refine Go.Proofs.YtbmklpcheopgoaaReg.op_val ho2 rfl (v := .pointer (some ⟨(w.heap.size + 1 + 1), 0, none⟩)) (w1 := W') ?_ (hK _ _ ⟨true, true, true, true, true, true, true, b7, b8, b9, true, b11, b12, b13, rfl, rfl, (fun _ => rfl), (fun _ => rfl), hHB, hHW⟩)
              simp [go_sem, hu]
            · simp only [List.getElem?_toArray, List.getElem?_cons_succ, List.getElem?_cons_zero, Option.some.injEq] at ho
              subst ho
              replace hf : b11 = false := hf
              have d0 : b0 = true := hd ⟨0, .phase⟩ (by simp) rfl
              have d1 : b1 = true := hd ⟨1, .phase⟩ (by simp) rfl
              have d2 : b2 = true := hd ⟨2, .phase⟩ (by simp) rfl
              have d3 : b3 = true := hd ⟨3, .phase⟩ (by simp) rfl
              have d4 : b4 = true := hd ⟨4, .data⟩ (by simp) rfl
              have d5 : b5 = true := hd ⟨5, .phase⟩ (by simp) rfl
              have d6 : b6 = true := hd ⟨6, .phase⟩ (by simp) rfl
              have d10 : b10 = true := hd ⟨10, .data⟩ (by simp) rfl
              subst d0
              subst d1
              subst d2
              subst d3
              subst d4
              subst d5
              subst d6
              subst d10
              subst hf
              refine Go.Proofs.YtbmklpcheopgoaaReg.op_skip ho2 rfl (w1 := W'.setCell ⟨(w.heap.size + 1 + 1), 0, none⟩ (.int .i64 (max ((boxSt pts i).2.f0) ((rd_T33 pts i).f0)))) ?_ (hK _ _ ⟨true, true, true, true, true, true, true, b7, b8, b9, true, true, b12, b13, rfl, rfl, (fun _ => rfl), (fun _ => rfl), Blks.set hHB 1 rfl 0 (.int .i64 (max ((boxSt pts i).2.f0) ((rd_T33 pts i).f0))), (Below.setCell hHW (by dsimp only; omega) (.int .i64 (max ((boxSt pts i).2.f0) ((rd_T33 pts i).f0))))⟩)
              simp [go_sem, hu, (Blks.cell hHB 1 rfl 0), (Blks.free hHB 1 rfl 0)]
            · simp only [List.getElem?_toArray, List.getElem?_cons_succ, List.getElem?_cons_zero, Option.some.injEq] at ho
              subst ho
              replace hf : b12 = false := hf
              have d0 : b0 = true := hd ⟨0, .phase⟩ (by simp) rfl
              have d1 : b1 = true := hd ⟨1, .phase⟩ (by simp) rfl
              have d2 : b2 = true := hd ⟨2, .phase⟩ (by simp) rfl
              have d3 : b3 = true := hd ⟨3, .phase⟩ (by simp) rfl
              have d4 : b4 = true := hd ⟨4, .phase⟩ (by simp) rfl
              have d5 : b5 = true := hd ⟨5, .phase⟩ (by simp) rfl
              have d6 : b6 = true := hd ⟨6, .phase⟩ (by simp) rfl
              have d7 : b7 = true := hd ⟨7, .phase⟩ (by simp) rfl
              have d8 : b8 = true := hd ⟨8, .phase⟩ (by simp) rfl
              have d9 : b9 = true := hd ⟨9, .phase⟩ (by simp) rfl
              have d10 : b10 = true := hd ⟨10, .phase⟩ (by simp) rfl
              have d11 : b11 = true := hd ⟨11, .phase⟩ (by simp) rfl
              subst d0
              subst d1
              subst d2
              subst d3
              subst d4
              subst d5
              subst d6
              subst d7
              subst d8
              subst d9
              subst d10
              subst d11
              subst hf
              refine Go.Proofs.YtbmklpcheopgoaaReg.op_val ho2 rfl (v := .pointer (some ⟨(w.heap.size + 1 + 1), 1, none⟩)) (w1 := W') ?_ (hK _ _ ⟨true, true, true, true, true, true, true, true, true, true, true, true, true, b13, rfl, rfl, (fun _ => rfl), (fun _ => rfl), hHB, hHW⟩)
              simp [go_sem, hu]
            · simp only [List.getElem?_toArray, List.getElem?_cons_succ, List.getElem?_cons_zero, Option.some.injEq] at ho
              subst ho
              replace hf : b13 = false := hf
              have d0 : b0 = true := hd ⟨0, .phase⟩ (by simp) rfl
              have d1 : b1 = true := hd ⟨1, .phase⟩ (by simp) rfl
              have d2 : b2 = true := hd ⟨2, .phase⟩ (by simp) rfl
              have d3 : b3 = true := hd ⟨3, .phase⟩ (by simp) rfl
              have d4 : b4 = true := hd ⟨4, .phase⟩ (by simp) rfl
              have d5 : b5 = true := hd ⟨5, .phase⟩ (by simp) rfl
              have d6 : b6 = true := hd ⟨6, .phase⟩ (by simp) rfl
              have d7 : b7 = true := hd ⟨7, .phase⟩ (by simp) rfl
              have d8 : b8 = true := hd ⟨8, .phase⟩ (by simp) rfl
              have d9 : b9 = true := hd ⟨9, .data⟩ (by simp) rfl
              have d10 : b10 = true := hd ⟨10, .phase⟩ (by simp) rfl
              have d11 : b11 = true := hd ⟨11, .chain⟩ (by simp) rfl
              have d12 : b12 = true := hd ⟨12, .data⟩ (by simp) rfl
              subst d0
              subst d1
              subst d2
              subst d3
              subst d4
              subst d5
              subst d6
              subst d7
              subst d8
              subst d9
              subst d10
              subst d11
              subst d12
              subst hf
              refine Go.Proofs.YtbmklpcheopgoaaReg.op_skip ho2 rfl (w1 := W'.setCell ⟨(w.heap.size + 1 + 1), 1, none⟩ (.int .i64 (max ((boxSt pts i).2.f1) ((rd_T33 pts i).f1)))) ?_ (hK _ _ ⟨true, true, true, true, true, true, true, true, true, true, true, true, true, true, rfl, rfl, (fun _ => rfl), (fun _ => rfl), Blks.set hHB 1 rfl 1 (.int .i64 (max ((boxSt pts i).2.f1) ((rd_T33 pts i).f1))), (Below.setCell hHW (by dsimp only; omega) (.int .i64 (max ((boxSt pts i).2.f1) ((rd_T33 pts i).f1))))⟩)
              simp [go_sem, hu, (Blks.cell hHB 1 rfl 1), (Blks.free hHB 1 rfl 1)]
          · rintro lst a W' ⟨b0, b1, b2, b3, b4, b5, b6, b7, b8, b9, b10, b11, b12, b13, rfl, rfl, k0, k1, hHB, hHW⟩ hall
            have a0 : b0 = true := hall 0 (by decide)
            have a1 : b1 = true := hall 1 (by decide)
            have a2 : b2 = true := hall 2 (by decide)
            have a3 : b3 = true := hall 3 (by decide)
            have a4 : b4 = true := hall 4 (by decide)
            have a5 : b5 = true := hall 5 (by decide)
            have a6 : b6 = true := hall 6 (by decide)
            have a7 : b7 = true := hall 7 (by decide)
            have a8 : b8 = true := hall 8 (by decide)
            have a9 : b9 = true := hall 9 (by decide)
            have a10 : b10 = true := hall 10 (by decide)
            have a11 : b11 = true := hall 11 (by decide)
            have a12 : b12 = true := hall 12 (by decide)
            have a13 : b13 = true := hall 13 (by decide)
            subst a0 a1 a2 a3 a4 a5 a6 a7 a8 a9 a10 a11 a12 a13
            clear k0 k1
            clear hall
            have HB : Blks [(wr.heap.size, .cells #[.int .i64 ((rd_T33 pts i).f0), .int .i64 ((rd_T33 pts i).f1), .bool (rd_T33 pts i).f2] 33 (0, 0)), ((w.heap.size + 1 + 1), .cells #[.int .i64 (max ((boxSt pts i).2.f0) ((rd_T33 pts i).f0)), .int .i64 (max ((boxSt pts i).2.f1) ((rd_T33 pts i).f1)), .bool ((boxSt pts i).2.f2)] 33 (0, 0)), ((w.heap.size + 1), .cells #[.int .i64 (min ((boxSt pts i).1.f0) ((rd_T33 pts i).f0)), .int .i64 (min ((boxSt pts i).1.f1) ((rd_T33 pts i).f1)), .bool ((boxSt pts i).1.f2)] 33 (0, 0)), (w.heap.size, .cells #[.slice (some ad0) pts.length c0, v1] 25 (0, 0))] W' := hHB
            have HW : Below w.heap.size w W' := hHW
            clear hHB hHW
            go_wp2
            go_roundw
            case rel =>
              refine ⟨i + 1, by omega, by simp, ⟨?_, HW⟩⟩
              have hst : boxSt pts (i + 1) = (⟨min ((boxSt pts i).1.f0) ((rd_T33 pts i).f0), min ((boxSt pts i).1.f1) ((rd_T33 pts i).f1), (boxSt pts i).1.f2⟩, ⟨max ((boxSt pts i).2.f0) ((rd_T33 pts i).f0), max ((boxSt pts i).2.f1) ((rd_T33 pts i).f1), (boxSt pts i).2.f2⟩) := by rw [boxSt_succ]; unfold boxStep; rw [if_neg HZ.out]
              rw [hst]
              exact HB.tail
            case measure => simp [intOf]; omega
    · obtain rfl : i = pts.length := by omega
      have g := HB.cells
      simp only [factsF, cellsF, boxPt] at g
      go_wp2
      refine Go.Proofs.YtbmklpcheopgoaaReg.reg_inv (by rfl) [0, 1, 2, 3, 4, 5, 6, 7, 8] (by kernel_rfl) (by kernel_rfl)
        (fun lst a W' => ∃ (b0 b1 b2 b3 b4 b5 b6 b7 b8 : Bool), lst = #[b0, b1, b2, b3, b4, b5, b6, b7, b8] ∧ a = ⟨#[.agg #[.slice A0 pts.length c0, v1], .pointer (some ⟨w.heap.size, 0, none⟩), .pointer (some ⟨(w.heap.size + 1), 0, none⟩), .pointer (some ⟨(w.heap.size + 1 + 1), 0, none⟩), (cond b8 (.bool (decide (0 < pts.length))) (.bool false)), u5, u6, .pointer (some ⟨w.heap.size, 0, none⟩), .slice A0 pts.length c0, .int .i64 pts.length, .int .i64 pts.length, .bool false, u12, u13, u14, u15, u16, u17, u18, u19, u20, u21, u22, u23, u24, u25, u26, u27, u28, u29, u30, u31, u32, u33, u34, u35, u36, u37, u38, u39, u40, u41, u42, u43, u44, u45, u46, u47, u48, u49, u50, u51, (cond b0 (.agg #[.int .i64 (boxSt pts pts.length).1.f0, .int .i64 (boxSt pts pts.length).1.f1, .bool (boxSt pts pts.length).1.f2]) undef), (cond b1 (.agg #[.int .i64 (boxSt pts pts.length).2.f0, .int .i64 (boxSt pts pts.length).2.f1, .bool (boxSt pts pts.length).2.f2]) undef), (cond b2 (.pointer (some ⟨w.heap.size, 0, none⟩)) undef), (cond b3 (.slice A0 pts.length c0) undef), (cond b4 (.int .i64 pts.length) undef), (cond b5 (.bool (decide (0 < pts.length))) undef)], []⟩ ∧ (Blks [((w.heap.size + 1 + 1), .cells #[.int .i64 (boxSt pts pts.length).2.f0, .int .i64 (boxSt pts pts.length).2.f1, .bool (boxSt pts pts.length).2.f2] 33 (0, 0)), ((w.heap.size + 1), .cells #[.int .i64 (boxSt pts pts.length).1.f0, .int .i64 (boxSt pts pts.length).1.f1, .bool (boxSt pts pts.length).1.f2] 33 (0, 0)), (w.heap.size, .cells #[.slice A0 pts.length c0, v1] 25 (0, 0))] W') ∧ (Below w.heap.size w W')) ?_ ?_ ?_ ?_
      · rintro lst a W' ⟨b0, b1, b2, b3, b4, b5, b6, b7, b8, rfl, _⟩
        rfl
      · exact ⟨false, false, false, false, false, false, false, false, false, rfl, rfl, HB.drew, below_drew HW⟩
      · rintro lst a W' i o ⟨b0, b1, b2, b3, b4, b5, b6, b7, b8, rfl, rfl, hHB, hHW⟩ ho hf hd K hK
        have hi : i < 9 := (Array.getElem?_eq_some_iff.1 ho).1
        have ho2 := ho
        rcases (show i = 0 ∨ i = 1 ∨ i = 2 ∨ i = 3 ∨ i = 4 ∨ i = 5 ∨ i = 6 ∨ i = 7 ∨ i = 8 by omega) with rfl | rfl | rfl | rfl | rfl | rfl | rfl | rfl | rfl
        · simp only [List.getElem?_toArray, List.getElem?_cons_succ, List.getElem?_cons_zero, Option.some.injEq] at ho
          subst ho
          replace hf : b0 = false := hf
          subst hf
          refine Go.Proofs.YtbmklpcheopgoaaReg.op_val ho2 rfl (v := .agg #[.int .i64 (boxSt pts pts.length).1.f0, .int .i64 (boxSt pts pts.length).1.f1, .bool (boxSt pts pts.length).1.f2]) (w1 := W') ?_ (hK _ _ ⟨true, b1, b2, b3, b4, b5, b6, b7, b8, rfl, rfl, hHB, hHW⟩)
          simp [go_sem, hu, (Blks.cell hHB 1 rfl 0), (Blks.cell hHB 1 rfl 1), (Blks.cell hHB 1 rfl 2)]
        · simp only [List.getElem?_toArray, List.getElem?_cons_succ, List.getElem?_cons_zero, Option.some.injEq] at ho
          subst ho
          replace hf : b1 = false := hf
          subst hf
          refine Go.Proofs.YtbmklpcheopgoaaReg.op_val ho2 rfl (v := .agg #[.int .i64 (boxSt pts pts.length).2.f0, .int .i64 (boxSt pts pts.length).2.f1, .bool (boxSt pts pts.length).2.f2]) (w1 := W') ?_ (hK _ _ ⟨b0, true, b2, b3, b4, b5, b6, b7, b8, rfl, rfl, hHB, hHW⟩)
          simp [go_sem, hu, (Blks.cell hHB 0 rfl 0), (Blks.cell hHB 0 rfl 1), (Blks.cell hHB 0 rfl 2)]
        · simp only [List.getElem?_toArray, List.getElem?_cons_succ, List.getElem?_cons_zero, Option.some.injEq] at ho
          subst ho
          replace hf : b2 = false := hf
          subst hf
          refine Go.Proofs.YtbmklpcheopgoaaReg.op_val ho2 rfl (v := .pointer (some ⟨w.heap.size, 0, none⟩)) (w1 := W') ?_ (hK _ _ ⟨b0, b1, true, b3, b4, b5, b6, b7, b8, rfl, rfl, hHB, hHW⟩)
          simp [go_sem, hu2]
        · simp only [List.getElem?_toArray, List.getElem?_cons_succ, List.getElem?_cons_zero, Option.some.injEq] at ho
          subst ho
          replace hf : b3 = false := hf
          have d2 : b2 = true := hd ⟨2, .data⟩ (by simp) rfl
          subst d2
          subst hf
          refine Go.Proofs.YtbmklpcheopgoaaReg.op_val ho2 rfl (v := .slice A0 pts.length c0) (w1 := W') ?_ (hK _ _ ⟨b0, b1, true, true, b4, b5, b6, b7, b8, rfl, rfl, hHB, hHW⟩)
          simp [go_sem, hu2, (Blks.cell hHB 2 rfl 0)]
        · simp only [List.getElem?_toArray, List.getElem?_cons_succ, List.getElem?_cons_zero, Option.some.injEq] at ho
          subst ho
          replace hf : b4 = false := hf
          have d3 : b3 = true := hd ⟨3, .data⟩ (by simp) rfl
          subst d3
          subst hf
          refine Go.Proofs.YtbmklpcheopgoaaReg.op_val ho2 rfl (v := .int .i64 pts.length) (w1 := W') ?_ (hK _ _ ⟨b0, b1, b2, true, true, b5, b6, b7, b8, rfl, rfl, hHB, hHW⟩)
          simp [go_sem, hu2]
        · simp only [List.getElem?_toArray, List.getElem?_cons_succ, List.getElem?_cons_zero, Option.some.injEq] at ho
          subst ho
          replace hf : b5 = false := hf
          have d4 : b4 = true := hd ⟨4, .data⟩ (by simp) rfl
          subst d4
          subst hf
          refine Go.Proofs.YtbmklpcheopgoaaReg.op_val ho2 rfl (v := .bool (decide (0 < pts.length))) (w1 := W') ?_ (hK _ _ ⟨b0, b1, b2, b3, true, true, b6, b7, b8, rfl, rfl, hHB, hHW⟩)
          simp [go_sem, hu2]
        · simp only [List.getElem?_toArray, List.getElem?_cons_succ, List.getElem?_cons_zero, Option.some.injEq] at ho
          subst ho
          replace hf : b6 = false := hf
          have d0 : b0 = true := hd ⟨0, .data⟩ (by simp) rfl
          subst d0
          subst hf
          refine Go.Proofs.YtbmklpcheopgoaaReg.op_skip ho2 rfl (w1 := (((W'.setCell ⟨(w.heap.size + 1), 0, none⟩ (.int .i64 (boxSt pts pts.length).1.f0)).setCell ⟨(w.heap.size + 1), 1, none⟩ (.int .i64 (boxSt pts pts.length).1.f1)).setCell ⟨(w.heap.size + 1), 2, none⟩ (.bool (boxSt pts pts.length).1.f2))) ?_ (hK _ _ ⟨true, b1, b2, b3, b4, b5, true, b7, b8, rfl, rfl, (Blks.set (Blks.set (Blks.set hHB 1 rfl 0 (.int .i64 (boxSt pts pts.length).1.f0)) 1 rfl 1 (.int .i64 (boxSt pts pts.length).1.f1)) 1 rfl 2 (.bool (boxSt pts pts.length).1.f2)), (Below.setCell (Below.setCell (Below.setCell hHW (by dsimp only; omega) (.int .i64 (boxSt pts pts.length).1.f0)) (by dsimp only; omega) (.int .i64 (boxSt pts pts.length).1.f1)) (by dsimp only; omega) (.bool (boxSt pts pts.length).1.f2))⟩)
          simp [go_sem, hu, (Blks.cell hHB 1 rfl 0), (Blks.cell hHB 1 rfl 1), (Blks.cell hHB 1 rfl 2), (Blks.free hHB 1 rfl 0), (Blks.free hHB 1 rfl 1), (Blks.free hHB 1 rfl 2)]
        · simp only [List.getElem?_toArray, List.getElem?_cons_succ, List.getElem?_cons_zero, Option.some.injEq] at ho
          subst ho
          replace hf : b7 = false := hf
          have d0 : b0 = true := hd ⟨0, .phase⟩ (by simp) rfl
          have d1 : b1 = true := hd ⟨1, .data⟩ (by simp) rfl
          have d6 : b6 = true := hd ⟨6, .chain⟩ (by simp) rfl
          subst d0
          subst d1
          subst d6
          subst hf
          refine Go.Proofs.YtbmklpcheopgoaaReg.op_skip ho2 rfl (w1 := (((W'.setCell ⟨(w.heap.size + 1 + 1), 0, none⟩ (.int .i64 (boxSt pts pts.length).2.f0)).setCell ⟨(w.heap.size + 1 + 1), 1, none⟩ (.int .i64 (boxSt pts pts.length).2.f1)).setCell ⟨(w.heap.size + 1 + 1), 2, none⟩ (.bool (boxSt pts pts.length).2.f2))) ?_ (hK _ _ ⟨true, true, b2, b3, b4, b5, true, true, b8, rfl, rfl, (Blks.set (Blks.set (Blks.set hHB 0 rfl 0 (.int .i64 (boxSt pts pts.length).2.f0)) 0 rfl 1 (.int .i64 (boxSt pts pts.length).2.f1)) 0 rfl 2 (.bool (boxSt pts pts.length).2.f2)), (Below.setCell (Below.setCell (Below.setCell hHW (by dsimp only; omega) (.int .i64 (boxSt pts pts.length).2.f0)) (by dsimp only; omega) (.int .i64 (boxSt pts pts.length).2.f1)) (by dsimp only; omega) (.bool (boxSt pts pts.length).2.f2))⟩)
          simp [go_sem, hu, (Blks.cell hHB 0 rfl 0), (Blks.cell hHB 0 rfl 1), (Blks.cell hHB 0 rfl 2), (Blks.free hHB 0 rfl 0), (Blks.free hHB 0 rfl 1), (Blks.free hHB 0 rfl 2)]
        · simp only [List.getElem?_toArray, List.getElem?_cons_succ, List.getElem?_cons_zero, Option.some.injEq] at ho
          subst ho
          replace hf : b8 = false := hf
          have d0 : b0 = true := hd ⟨0, .phase⟩ (by simp) rfl
          have d1 : b1 = true := hd ⟨1, .phase⟩ (by simp) rfl
          have d2 : b2 = true := hd ⟨2, .phase⟩ (by simp) rfl
          have d3 : b3 = true := hd ⟨3, .phase⟩ (by simp) rfl
          have d4 : b4 = true := hd ⟨4, .phase⟩ (by simp) rfl
          have d5 : b5 = true := hd ⟨5, .data⟩ (by simp) rfl
          have d6 : b6 = true := hd ⟨6, .phase⟩ (by simp) rfl
          have d7 : b7 = true := hd ⟨7, .chain⟩ (by simp) rfl
          subst d0
          subst d1
          subst d2
          subst d3
          subst d4
          subst d5
          subst d6
          subst d7
          subst hf
          refine Go.Proofs.YtbmklpcheopgoaaReg.op_val ho2 rfl (v := .bool (decide (0 < pts.length))) (w1 := W') ?_ (hK _ _ ⟨true, true, true, true, true, true, true, true, true, rfl, rfl, hHB, hHW⟩)
          simp [go_sem, hu2]
      · rintro lst a W' ⟨b0, b1, b2, b3, b4, b5, b6, b7, b8, rfl, rfl, hHB, hHW⟩ hall
        have a0 : b0 = true := hall 0 (by decide)
        have a1 : b1 = true := hall 1 (by decide)
        have a2 : b2 = true := hall 2 (by decide)
        have a3 : b3 = true := hall 3 (by decide)
        have a4 : b4 = true := hall 4 (by decide)
        have a5 : b5 = true := hall 5 (by decide)
        have a6 : b6 = true := hall 6 (by decide)
        have a7 : b7 = true := hall 7 (by decide)
        have a8 : b8 = true := hall 8 (by decide)
        subst a0 a1 a2 a3 a4 a5 a6 a7 a8
        clear hall
        have HB : Blks [((w.heap.size + 1 + 1), .cells #[.int .i64 (boxSt pts pts.length).2.f0, .int .i64 (boxSt pts pts.length).2.f1, .bool (boxSt pts pts.length).2.f2] 33 (0, 0)), ((w.heap.size + 1), .cells #[.int .i64 (boxSt pts pts.length).1.f0, .int .i64 (boxSt pts pts.length).1.f1, .bool (boxSt pts pts.length).1.f2] 33 (0, 0)), (w.heap.size, .cells #[.slice A0 pts.length c0, v1] 25 (0, 0))] W' := hHB
        have HW : Below w.heap.size w W' := hHW
        clear hHB hHW
        go_wp2
        refine bodyPost_ret (v := .tuple #[.agg #[.int .i64 (boxSt pts pts.length).1.f0, .int .i64 (boxSt pts pts.length).1.f1, .bool (boxSt pts pts.length).1.f2], .agg #[.int .i64 (boxSt pts pts.length).2.f0, .int .i64 (boxSt pts pts.length).2.f1, .bool (boxSt pts pts.length).2.f2], .bool (decide (0 < pts.length))]) ?_ rfl ⟨rfl, HW⟩
        simp [results, Try.f19, go_sem, HB.cell 0 rfl 0, HB.cell 0 rfl 1, HB.cell 0 rfl 2, HB.cell 1 rfl 0, HB.cell 1 rfl 1, HB.cell 1 rfl 2]

def outline_Box.f (l0_0 : List S33) (l0_1 : List Int) : Option (Int × Int × Bool × Int × Int × Bool × Bool) :=
  some ((boxSt l0_0 l0_0.length).1.f0, (boxSt l0_0 l0_0.length).1.f1, (boxSt l0_0 l0_0.length).1.f2, (boxSt l0_0 l0_0.length).2.f0, (boxSt l0_0 l0_0.length).2.f1, (boxSt l0_0 l0_0.length).2.f2, decide (0 < l0_0.length))
theorem outline_Box.calls (A0_0 : Option Addr) (c0_0 : Nat) (l0_0 : List (S33)) (A0_1 : Option Addr) (c0_1 : Nat) (l0_1 : List Int) (r1 : Int) (r2 : Int) (r3 : Bool) (r4 : Int) (r5 : Int) (r6 : Bool) (r7 : Bool) (w : World) (hr0_0 : Kd.C k33 w A0_0 l0_0.length l0_0) (hc0_0 : l0_0.length ≤ c0_0) (hr0_1 : Kd.C (Kd.int .i64) w A0_1 l0_1.length l0_1) (hc0_1 : l0_1.length ≤ c0_1) (h : outline_Box.f l0_0 l0_1 = some (r1, r2, r3, r4, r5, r6, r7)) :
    Calls Try.prog 19 #[.agg #[.slice A0_0 l0_0.length c0_0, .slice A0_1 l0_1.length c0_1]] w fun e w' => e = .returned (.tuple #[.agg #[.int .i64 r1, .int .i64 r2, .bool r3], .agg #[.int .i64 r4, .int .i64 r5, .bool r6], .bool r7]) ∧ Below w.heap.size w w' := by
  unfold outline_Box.f at h
  simp only [Option.some.injEq, Prod.mk.injEq] at h
  obtain ⟨rfl, rfl, rfl, rfl, rfl, rfl, rfl⟩ := h
  exact box_calls A0_0 c0_0 l0_0 _ w hr0_0 hc0_0

end Go.Proofs.Ytbmklpcheopgoaa.H
