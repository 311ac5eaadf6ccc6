/- What the Go functions of this seat compute, as Lean functions, each with the proof that the call answers so; made by a program of this session. -/
import Derived.Test.YtbmklpcheopgoaaHx0
import Derived.Test.YtbmklpcheopgoaaHx9
import Derived.WalkKit
import Derived.Lib.Hide
import Derived.WalkSpells
import Derived.Test.YtbmklpcheopgoaaCallOps
import Derived.Test.YtbmklpcheopgoaaFlatRows
import Derived.Test.YtbmklpcheopgoaaHx5
namespace Go.Proofs.Ytbmklpcheopgoaa.H
open Go.RowKit Go.Proofs.YtbmklpcheopgoaaW.PrintWords Go.Proofs.YtbmklpcheopgoaaW.PrintLast Go.Proofs.YtbmklpcheopgoaaW.PrintMore
attribute [local go_sem] max2_int min2_int max_two min_two max_three min_three max_four min_four   -- for this text's walks alone
set_option linter.unusedVariables false
set_option linter.unusedSimpArgs false

/-! ### outline_row: function 48 -/
open Go.Proofs.YtbmklpcheopgoaaOps Go.Proofs.YtbmklpcheopgoaaIt Go.Proofs.YtbmklpcheopgoaaBlks Go.Proofs.YtbmklpcheopgoaaFlat Go.Proofs.YtbmklpcheopgoaaCallOps
attribute [local go_sem] World.cell?_alloc_some
theorem flat_pt2 : Flat k52 := fun _ _ _ _ _ _ _ _ h => by rw [k52_openM h]; exact k52_mkM _ _ _ _
theorem info_pt2 : (Try.prog.info? 52).map (fun i => (i.zero, i.size, i.bytes)) = some (some (.agg #[.int .i64 0, .int .i64 0]), Kd.sz k52, 16) := by kernel_rfl
def atV (n a c b : Int) : Int := (outline_at.f n a c b).getD 0
theorem atV_f (n a c b : Int) : outline_at.f n a c b = some (atV n a c b) := rfl
/-- The j-th point of the curve that begins at place i. -/
def curveAt (l : List S101) (i : Nat) (j : Nat) : S52 :=
  let a := rd_T101 l (i : Nat); let c := rd_T101 l ((i + 1) % l.length : Nat); let b := rd_T101 l ((i + 2) % l.length : Nat)
  ⟨atV j a.f0.f0 c.f0.f0 b.f0.f0, atV j a.f0.f1 c.f0.f1 b.f0.f1⟩
def curveK (l : List S101) (i m : Nat) : List S52 := (List.range m).map fun j => curveAt l i (1 + j)
def rowGo (l : List S101) : Nat → Nat → List S52 → List S52
  | 0, _, out => out
  | f + 1, i, out => if i < l.length then (if (rd_T101 l ((i + 1) % l.length : Nat)).f1 = true then rowGo l f (i + 1) (out ++ [(rd_T101 l ((i + 1) % l.length : Nat)).f0]) else rowGo l f (i + 2) (out ++ curveK l i 8)) else out
def rowAll (l : List S101) : List S52 := rowGo l l.length 0 [(rd_T101 l (0 : Nat)).f0]
def rowL (l : List S101) : List S52 := (rowAll l).take ((rowAll l).length - 1)
theorem rowGo_more (l : List S101) : ∀ (f i : Nat) (out : List S52), l.length ≤ i + f → rowGo l (f + 1) i out = rowGo l f i out := by
  intro f
  induction f with
  | zero => intro i out h; unfold rowGo; rw [if_neg (by omega)]
  | succ f ih =>
    intro i out h
    by_cases hi : i < l.length
    · rw [show rowGo l (f + 1 + 1) i out = _ from by unfold rowGo; exact if_pos hi, show rowGo l (f + 1) i out = _ from by unfold rowGo; exact if_pos hi]
      rw [ih _ _ (by omega), ih _ _ (by omega)]
    · rw [show rowGo l (f + 1 + 1) i out = _ from by unfold rowGo; exact if_neg hi, show rowGo l (f + 1) i out = _ from by unfold rowGo; exact if_neg hi]
theorem rowGo_on (l : List S101) (i : Nat) (out : List S52) (hi : i < l.length) (hc : (rd_T101 l ((i + 1) % l.length : Nat)).f1 = true) : rowGo l (l.length - i) i out = rowGo l (l.length - (i + 1)) (i + 1) (out ++ [(rd_T101 l ((i + 1) % l.length : Nat)).f0]) := by
  obtain ⟨m, hm⟩ : ∃ m, l.length - i = m + 1 := ⟨l.length - i - 1, by omega⟩
  rw [hm, show l.length - (i + 1) = m by omega]
  rw [show rowGo l (m + 1) i out = _ from by unfold rowGo; exact if_pos hi, if_pos hc]
theorem rowGo_off (l : List S101) (i : Nat) (out : List S52) (hi : i < l.length) (hc : (rd_T101 l ((i + 1) % l.length : Nat)).f1 = false) : rowGo l (l.length - i) i out = rowGo l (l.length - (i + 2)) (i + 2) (out ++ curveK l i 8) := by
  obtain ⟨m, hm⟩ : ∃ m, l.length - i = m + 1 := ⟨l.length - i - 1, by omega⟩
  rw [hm, show rowGo l (m + 1) i out = _ from by unfold rowGo; exact if_pos hi, if_neg (by rw [hc]; decide)]
  cases m with
  | zero => rw [show l.length - (i + 2) = 0 by omega]
  | succ m => rw [show l.length - (i + 2) = m by omega]; exact rowGo_more l m (i + 2) _ (by omega)
theorem curveK_succ (l : List S101) (i m : Nat) : curveK l i (m + 1) = curveK l i m ++ [curveAt l i (1 + m)] := by simp [curveK, List.range_succ]
theorem curveK_len (l : List S101) (i m : Nat) : (curveK l i m).length = m := by simp [curveK]

theorem row_apart {α : Type} {d : Kd α} {H : List (Nat × Obj)} {W : World} {base : Nat} {ok : Nat → Prop} {v : Value} {xs : List α} (hB : Blks H W) (hH : ∀ p ∈ H, ∃ cs, p.2 = .cells cs 101 (0, 0)) (hO : d.R 52 W base ok v xs) : ∀ b ∈ H.map Prod.fst, v.ownBlock = some b → False := by
  intro b hb e
  obtain ⟨p, hp, rfl⟩ := List.mem_map.1 hb
  obtain ⟨cs, hc⟩ := hH p hp
  have h1 := hB.at_ p hp
  obtain ⟨_, inner, ho, _⟩ := hO
  obtain ⟨cells, h2⟩ := own_typed ho _ e
  rw [h1, hc] at h2
  injection h2 with h2
  injection h2 with _ h2
  cases h2

structure RowReg5 where
  mk ::
  b0 : Bool
  b1 : Bool
  b2 : Bool
  b3 : Bool
  b4 : Bool
  b5 : Bool
  b6 : Bool
  b7 : Bool
  b8 : Bool
  b9 : Bool
  b10 : Bool
  b11 : Bool
  b12 : Bool
  b13 : Bool
  b14 : Bool
  b15 : Bool
  b16 : Bool
  b17 : Bool
  b18 : Bool
  b19 : Bool
  b20 : Bool
  b21 : Bool
  b22 : Bool
  b23 : Bool
  b24 : Bool
  b25 : Bool
  gA : Nat
  gC : Nat
  gB : Nat
structure RowReg11 where
  mk ::
  b0 : Bool
  b1 : Bool
  b2 : Bool
  b3 : Bool
  b4 : Bool
  b5 : Bool
  b6 : Bool
  b7 : Bool
  b8 : Bool
  b9 : Bool
  b10 : Bool
  b11 : Bool
  b12 : Bool
  b13 : Bool
  b14 : Bool
  b15 : Bool
  b16 : Bool
  b17 : Bool
  b18 : Bool
  b19 : Bool
  b20 : Bool
  b21 : Bool
  b22 : Bool
  b23 : Bool
  b24 : Bool
  b25 : Bool
  b26 : Bool
  gH : Nat
  V1 : Value
set_option maxRecDepth 100000 in
set_option maxHeartbeats 4000000 in
theorem row_calls (A0 : Option Addr) (c0 : Nat) (l : List S101) (w : World) (hr : Kd.C k101 w A0 l.length l) (hc0 : l.length ≤ c0) (hpos : 0 < l.length) (hlim : l.length ≤ 3000000) :
    Calls Try.prog 48 #[.slice A0 l.length c0] w fun e w' => ∃ v : Value, e = .returned v ∧ Kd.R k52 52 w' w.heap.size (fun _ => True) v (rowL l) ∧ Below w.heap.size w w' := by
  have hu := Try.underlying52
  have hu2 := Try.underlying101
  have hu3 := Try.underlying83
  obtain ⟨ad, rfl, x0, x1, x2⟩ := at_T101 hr 0 (by omega) (by omega)
  have e0 : ad.add 0 = ad := by unfold Addr.add; split <;> simp_all
  simp only [Int.toNat_zero, Nat.zero_mul, e0] at x0 x1 x2
  clear e0
  have HR := Aside0.mk hr
  clear hr
  go_enter Try.func48, Try.ntmps48
  go_wp2
  have hS0 : Kd.R k52 52 (w.alloc (.cells #[.int .i64 (rd_T101 l 0).f0.f0, .int .i64 (rd_T101 l 0).f0.f1] 52)) w.heap.size (Own1 (.slice (some ⟨w.heap.size, 0, none⟩) 1 1)) (.slice (some ⟨w.heap.size, 0, none⟩) 1 1) [(rd_T101 l 0).f0] := by
    refine ⟨fun k hk => hk.symm, [.int .i64 (rd_T101 l 0).f0.f0, .int .i64 (rd_T101 l 0).f0.f1], ⟨by simp; rfl, .inr ⟨w.heap.size, 1, _, rfl, Nat.le_refl _, World.alloc_heap_new w _, Nat.le_refl _, by simp [maxLen], by rfl, by rfl⟩⟩, ?_⟩
    exact Reps.snoc (ps := []) (cs := []) (Reps.none _ _) (k52_mkM _ _ _ _) rfl
  go_loopw [3, 4] (fun v3 v4 wr => ∃ (i : Nat) (out : List S52), i ≤ l.length + 1 ∧ v4 = .int .i64 i ∧ 1 ≤ out.length ∧ out.length ≤ 1 + 8 * i ∧ Aside0 (rowGo l (l.length - i) i out = rowAll l ∧ Kd.R k52 52 wr w.heap.size (Own1 v3) v3 out ∧ Below w.heap.size w wr))
    (fun _ v4 _ => l.length + 2 - (intOf v4).toNat)
  case atStart => exact ⟨0, _, by omega, rfl, by simp, by simp, ⟨rfl, hS0, (Below.refl _ _).alloc (Nat.le_refl _) _⟩⟩
  case round =>
    obtain ⟨i, out, hi, rfl, hol1, hol, ⟨HG, HO, HB⟩⟩ := hrel
    by_cases hlt : i < l.length
    · obtain ⟨Ao, co, hv3⟩ := Kd.R_slice HO
      subst hv3
      have hOlt : ∀ k, (Value.slice Ao out.length co).ownBlock = some k → k < wr.heap.size := fun k hk => by obtain ⟨_, inner, ho, _⟩ := HO; exact own_lt ho k hk
      obtain ⟨j1, hj1⟩ : ∃ j1, (i + 1) % l.length = j1 := ⟨_, rfl⟩
      obtain ⟨j2, hj2⟩ : ∃ j2, (i + 2) % l.length = j2 := ⟨_, rfl⟩
      have hlj1 : j1 < l.length := by rw [← hj1]; exact Nat.mod_lt _ hpos
      have hlj2 : j2 < l.length := by rw [← hj2]; exact Nat.mod_lt _ hpos
      have hli : i < l.length := hlt
      have hw1 : wrap64 ((i : Int) + 1) = (i : Int) + 1 := by unfold wrap64; omega
      have hw2 : wrap64 ((i : Int) + 2) = (i : Int) + 2 := by unfold wrap64; omega
      have hw1' : IntKind.i64.wrap ((i : Int) + 1) = (i : Int) + 1 := (Go.Proofs.YtbmklpcheopgoaaW.PrintLast.i64_w _).trans hw1
      have hw2' : IntKind.i64.wrap ((i : Int) + 2) = (i : Int) + 2 := (Go.Proofs.YtbmklpcheopgoaaW.PrintLast.i64_w _).trans hw2
      have hn0 : ¬ ((l.length : Int) = 0) := by omega
      have hne : ¬ l = [] := fun h => by rw [h] at hpos; simp at hpos
      have hm1' : ((i : Int) + 1) % (l.length : Int) = (j1 : Int) := by rw [← hj1]; simp
      have hm2' : ((i : Int) + 2) % (l.length : Int) = (j2 : Int) := by rw [← hj2]; simp
      have hm1 : Int.tmod ((i : Int) + 1) (l.length : Int) = (j1 : Int) := by rw [Int.tmod_eq_emod_of_nonneg (by omega)]; exact hm1'
      have hm2 : Int.tmod ((i : Int) + 2) (l.length : Int) = (j2 : Int) := by rw [Int.tmod_eq_emod_of_nonneg (by omega)]; exact hm2'
      obtain ⟨_, e1, a0, a1, a2⟩ := at_T101 HR.out ((i : Nat) : Int) (by omega) (by omega)
      cases e1
      obtain ⟨_, e1, c0_, c1_, c2_⟩ := at_T101 HR.out ((j1 : Nat) : Int) (by omega) (by omega)
      cases e1
      obtain ⟨_, e1, b0_, b1_, b2_⟩ := at_T101 HR.out ((j2 : Nat) : Int) (by omega) (by omega)
      cases e1
      simp only [Int.toNat_natCast] at a0 a1 a2 c0_ c1_ c2_ b0_ b1_ b2_
      have fa0 := (HB.cell (World.block_lt_of_cell? w _ a0)).trans a0
      have fa1 := (HB.cell (World.block_lt_of_cell? w _ a1)).trans a1
      have fa2 := (HB.cell (World.block_lt_of_cell? w _ a2)).trans a2
      have fc0 := (HB.cell (World.block_lt_of_cell? w _ c0_)).trans c0_
      have fc1 := (HB.cell (World.block_lt_of_cell? w _ c1_)).trans c1_
      have fc2 := (HB.cell (World.block_lt_of_cell? w _ c2_)).trans c2_
      have fb0 := (HB.cell (World.block_lt_of_cell? w _ b0_)).trans b0_
      have fb1 := (HB.cell (World.block_lt_of_cell? w _ b1_)).trans b1_
      have fb2 := (HB.cell (World.block_lt_of_cell? w _ b2_)).trans b2_
      have HB_ := Lib.hid HB
      clear HB
      clear c0_ c1_ c2_ b0_ b1_ b2_ x0 x1 x2 a0 a1 a2
      go_wp2_with fail
      refine Go.Proofs.YtbmklpcheopgoaaReg.reg_inv (by rfl) [0, 1, 2, 3, 4, 5, 6, 7, 8, 9, 10, 11, 12, 13, 14, 15, 16, 17, 18, 19, 20, 21, 22, 23, 24, 25] (by kernel_rfl) (by kernel_rfl)
        (fun lst a W' => ∃ d : RowReg5, lst = #[d.b0, d.b1, d.b2, d.b3, d.b4, d.b5, d.b6, d.b7, d.b8, d.b9, d.b10, d.b11, d.b12, d.b13, d.b14, d.b15, d.b16, d.b17, d.b18, d.b19, d.b20, d.b21, d.b22, d.b23, d.b24, d.b25] ∧ a = ⟨#[.slice (some ad) l.length c0, undef, .slice none 0 0, .slice Ao out.length co, .int .i64 i, (cond d.b20 (.pointer (some ⟨d.gA, 0, none⟩)) u5), (cond d.b21 (.pointer (some ⟨d.gC, 0, none⟩)) u6), (cond d.b22 (.pointer (some ⟨d.gB, 0, none⟩)) u7), u8, .slice (some ad) l.length c0, .pointer (some ad), .pointer (some ad), .agg #[.int .i64 (rd_T101 l 0).f0.f0, .int .i64 (rd_T101 l 0).f0.f1], .slice (some ⟨w.heap.size, 0, none⟩) 1 1, .int .i64 i, .slice (some ad) l.length c0, .int .i64 l.length, .bool true, u18, u19, (cond d.b0 (.slice (some ad) l.length c0) u20), (cond d.b1 (.int .i64 i) u21), (cond d.b2 (.pointer (some (ad.add (i * 3)))) u22), (cond d.b3 (.agg #[.int .i64 (rd_T101 l ((i : Nat) : Int)).f0.f0, .int .i64 (rd_T101 l ((i : Nat) : Int)).f0.f1, .bool (rd_T101 l ((i : Nat) : Int)).f1]) u23), (cond d.b4 (.slice (some ad) l.length c0) u24), (cond d.b5 (.int .i64 i) u25), (cond d.b6 (.int .i64 ((i : Int) + 1)) u26), (cond d.b7 (.slice (some ad) l.length c0) u27), (cond d.b8 (.int .i64 l.length) u28), (cond d.b9 (.int .i64 j1) u29), (cond d.b10 (.pointer (some (ad.add (j1 * 3)))) u30), (cond d.b11 (.agg #[.int .i64 (rd_T101 l ((j1 : Nat) : Int)).f0.f0, .int .i64 (rd_T101 l ((j1 : Nat) : Int)).f0.f1, .bool (rd_T101 l ((j1 : Nat) : Int)).f1]) u31), (cond d.b12 (.slice (some ad) l.length c0) u32), (cond d.b13 (.int .i64 i) u33), (cond d.b14 (.int .i64 ((i : Int) + 2)) u34), (cond d.b15 (.slice (some ad) l.length c0) u35), (cond d.b16 (.int .i64 l.length) u36), (cond d.b17 (.int .i64 j2) u37), (cond d.b18 (.pointer (some (ad.add (j2 * 3)))) u38), (cond d.b19 (.agg #[.int .i64 (rd_T101 l ((j2 : Nat) : Int)).f0.f0, .int .i64 (rd_T101 l ((j2 : Nat) : Int)).f0.f1, .bool (rd_T101 l ((j2 : Nat) : Int)).f1]) u39), u40, u41, u42, u43, u44, u45, u46, u47, u48, u49, u50, u51, u52, u53, u54, u55, u56, u57, u58, u59, u60, u61, u62, u63, u64, u65, u66, u67, u68, u69, u70, u71, u72, u73, u74, u75, u76, u77, u78, undef, undef, undef, undef, undef], []⟩ ∧ (d.b23 = true → d.b20 = true) ∧ (d.b23 = true → d.b21 = true) ∧ (d.b23 = true → d.b22 = true) ∧ (d.b24 = true → d.b20 = true) ∧ (d.b24 = true → d.b21 = true) ∧ (d.b24 = true → d.b22 = true) ∧ (d.b25 = true → d.b20 = true) ∧ (d.b25 = true → d.b21 = true) ∧ (d.b25 = true → d.b22 = true) ∧ (d.b20 = true → W'.heap[d.gA]? = some (.cells #[cond d.b23 (.int .i64 (rd_T101 l ((i : Nat) : Int)).f0.f0) (.int .i64 0), cond d.b23 (.int .i64 (rd_T101 l ((i : Nat) : Int)).f0.f1) (.int .i64 0), cond d.b23 (.bool (rd_T101 l ((i : Nat) : Int)).f1) (.bool false)] 101 (0, 0))) ∧ (d.b21 = true → W'.heap[d.gC]? = some (.cells #[cond d.b24 (.int .i64 (rd_T101 l ((j1 : Nat) : Int)).f0.f0) (.int .i64 0), cond d.b24 (.int .i64 (rd_T101 l ((j1 : Nat) : Int)).f0.f1) (.int .i64 0), cond d.b24 (.bool (rd_T101 l ((j1 : Nat) : Int)).f1) (.bool false)] 101 (0, 0))) ∧ (d.b22 = true → W'.heap[d.gB]? = some (.cells #[cond d.b25 (.int .i64 (rd_T101 l ((j2 : Nat) : Int)).f0.f0) (.int .i64 0), cond d.b25 (.int .i64 (rd_T101 l ((j2 : Nat) : Int)).f0.f1) (.int .i64 0), cond d.b25 (.bool (rd_T101 l ((j2 : Nat) : Int)).f1) (.bool false)] 101 (0, 0))) ∧ (d.b20 = true → d.b21 = true → d.gA ≠ d.gC) ∧ (d.b20 = true → d.b22 = true → d.gA ≠ d.gB) ∧ (d.b21 = true → d.b22 = true → d.gC ≠ d.gB) ∧ (d.b20 = true → wr.heap.size ≤ d.gA) ∧ (d.b21 = true → wr.heap.size ≤ d.gC) ∧ (d.b22 = true → wr.heap.size ≤ d.gB) ∧ (Kd.R k52 52 W' w.heap.size (Own1 (.slice Ao out.length co)) (.slice Ao out.length co) out) ∧ (Below wr.heap.size wr W')) ?_ ?_ ?_ ?_
      · rintro lst a W' ⟨d, rfl, _⟩
        rfl
      · exact ⟨⟨false, false, false, false, false, false, false, false, false, false, false, false, false, false, false, false, false, false, false, false, false, false, false, false, false, false, 0, 0, 0⟩, rfl, rfl, (fun h => Bool.noConfusion h), (fun h => Bool.noConfusion h), (fun h => Bool.noConfusion h), (fun h => Bool.noConfusion h), (fun h => Bool.noConfusion h), (fun h => Bool.noConfusion h), (fun h => Bool.noConfusion h), (fun h => Bool.noConfusion h), (fun h => Bool.noConfusion h), (fun h => Bool.noConfusion h), (fun h => Bool.noConfusion h), (fun h => Bool.noConfusion h), (fun h => Bool.noConfusion h), (fun h => Bool.noConfusion h), (fun h => Bool.noConfusion h), (fun h => Bool.noConfusion h), (fun h => Bool.noConfusion h), (fun h => Bool.noConfusion h), (R_chg HO ((Chg.refl (fun _ => False) _).drew) (fun _ _ => id)), (below_drew (Below.refl _ _))⟩
      · rintro lst a W' i o ⟨⟨b0, b1, b2, b3, b4, b5, b6, b7, b8, b9, b10, b11, b12, b13, b14, b15, b16, b17, b18, b19, b20, b21, b22, b23, b24, b25, gA, gC, gB⟩, rfl, rfl, k0, k1, k2, k3, k4, k5, k6, k7, k8, hHA, hHC, hHD, hN1, hN2, hN3, hG1, hG2, hG3, hHO, hHB⟩ ho hf hd K hK
        dsimp only at k0 k1 k2 k3 k4 k5 k6 k7 k8 hHA hHC hHD hN1 hN2 hN3 hG1 hG2 hG3 hHO hHB
        have hi : i < 26 := (Array.getElem?_eq_some_iff.1 ho).1
        have ho2 := ho
        rcases (show i = 0 ∨ i = 1 ∨ i = 2 ∨ i = 3 ∨ i = 4 ∨ i = 5 ∨ i = 6 ∨ i = 7 ∨ i = 8 ∨ i = 9 ∨ i = 10 ∨ i = 11 ∨ i = 12 ∨ i = 13 ∨ i = 14 ∨ i = 15 ∨ i = 16 ∨ i = 17 ∨ i = 18 ∨ i = 19 ∨ i = 20 ∨ i = 21 ∨ i = 22 ∨ i = 23 ∨ i = 24 ∨ i = 25 by omega) with rfl | rfl | rfl | rfl | rfl | rfl | rfl | rfl | rfl | rfl | rfl | rfl | rfl | rfl | rfl | rfl | rfl | rfl | rfl | rfl | rfl | rfl | rfl | rfl | rfl | rfl
        · simp only [List.getElem?_toArray, List.getElem?_cons_succ, List.getElem?_cons_zero, Option.some.injEq] at ho
          subst ho
          replace hf : b0 = false := hf
          subst hf
          refine Go.Proofs.YtbmklpcheopgoaaReg.op_val ho2 rfl (v := .slice (some ad) l.length c0) (w1 := W') ?_ (hK _ _ ⟨⟨true, b1, b2, b3, b4, b5, b6, b7, b8, b9, b10, b11, b12, b13, b14, b15, b16, b17, b18, b19, b20, b21, b22, b23, b24, b25, gA, gC, gB⟩, rfl, rfl, (k0), (k1), (k2), (k3), (k4), (k5), (k6), (k7), (k8), hHA, hHC, hHD, hN1, hN2, hN3, hG1, hG2, hG3, hHO, hHB⟩)
          simp [go_sem, hu3]
        · simp only [List.getElem?_toArray, List.getElem?_cons_succ, List.getElem?_cons_zero, Option.some.injEq] at ho
          subst ho
          replace hf : b1 = false := hf
          subst hf
          refine Go.Proofs.YtbmklpcheopgoaaReg.op_val ho2 rfl (v := .int .i64 i) (w1 := W') ?_ (hK _ _ ⟨⟨b0, true, b2, b3, b4, b5, b6, b7, b8, b9, b10, b11, b12, b13, b14, b15, b16, b17, b18, b19, b20, b21, b22, b23, b24, b25, gA, gC, gB⟩, rfl, rfl, (k0), (k1), (k2), (k3), (k4), (k5), (k6), (k7), (k8), hHA, hHC, hHD, hN1, hN2, hN3, hG1, hG2, hG3, hHO, hHB⟩)
          simp [go_sem, hu3]
        · simp only [List.getElem?_toArray, List.getElem?_cons_succ, List.getElem?_cons_zero, Option.some.injEq] at ho
          subst ho
          replace hf : b2 = false := hf
          have d0 : b0 = true := hd ⟨0, .data⟩ (by simp) rfl
          have d1 : b1 = true := hd ⟨1, .data⟩ (by simp) rfl
          subst d0
          subst d1
          subst hf
          refine Go.Proofs.YtbmklpcheopgoaaReg.op_val ho2 rfl (v := .pointer (some (ad.add (i * 3)))) (w1 := W') ?_ (hK _ _ ⟨⟨true, true, true, b3, b4, b5, b6, b7, b8, b9, b10, b11, b12, b13, b14, b15, b16, b17, b18, b19, b20, b21, b22, b23, b24, b25, gA, gC, gB⟩, rfl, rfl, (k0), (k1), (k2), (k3), (k4), (k5), (k6), (k7), (k8), hHA, hHC, hHD, hN1, hN2, hN3, hG1, hG2, hG3, hHO, hHB⟩)
          simp [go_sem, hu3, hli]
        · simp only [List.getElem?_toArray, List.getElem?_cons_succ, List.getElem?_cons_zero, Option.some.injEq] at ho
          subst ho
          replace hf : b3 = false := hf
          have d2 : b2 = true := hd ⟨2, .data⟩ (by simp) rfl
          subst d2
          subst hf
          refine Go.Proofs.YtbmklpcheopgoaaReg.op_val ho2 rfl (v := .agg #[.int .i64 (rd_T101 l ((i : Nat) : Int)).f0.f0, .int .i64 (rd_T101 l ((i : Nat) : Int)).f0.f1, .bool (rd_T101 l ((i : Nat) : Int)).f1]) (w1 := W') ?_ (hK _ _ ⟨⟨b0, b1, true, true, b4, b5, b6, b7, b8, b9, b10, b11, b12, b13, b14, b15, b16, b17, b18, b19, b20, b21, b22, b23, b24, b25, gA, gC, gB⟩, rfl, rfl, (k0), (k1), (k2), (k3), (k4), (k5), (k6), (k7), (k8), hHA, hHC, hHD, hN1, hN2, hN3, hG1, hG2, hG3, hHO, hHB⟩)
          simp [go_sem, hu, hu2, (hHB.cell (World.block_lt_of_cell? wr _ fa0)).trans fa0, (hHB.cell (World.block_lt_of_cell? wr _ fa1)).trans fa1, (hHB.cell (World.block_lt_of_cell? wr _ fa2)).trans fa2]
        · simp only [List.getElem?_toArray, List.getElem?_cons_succ, List.getElem?_cons_zero, Option.some.injEq] at ho
          subst ho
          replace hf : b4 = false := hf
          subst hf
          refine Go.Proofs.YtbmklpcheopgoaaReg.op_val ho2 rfl (v := .slice (some ad) l.length c0) (w1 := W') ?_ (hK _ _ ⟨⟨b0, b1, b2, b3, true, b5, b6, b7, b8, b9, b10, b11, b12, b13, b14, b15, b16, b17, b18, b19, b20, b21, b22, b23, b24, b25, gA, gC, gB⟩, rfl, rfl, (k0), (k1), (k2), (k3), (k4), (k5), (k6), (k7), (k8), hHA, hHC, hHD, hN1, hN2, hN3, hG1, hG2, hG3, hHO, hHB⟩)
          simp [go_sem, hu3]
        · simp only [List.getElem?_toArray, List.getElem?_cons_succ, List.getElem?_cons_zero, Option.some.injEq] at ho
          subst ho
          replace hf : b5 = false := hf
          subst hf
          refine Go.Proofs.YtbmklpcheopgoaaReg.op_val ho2 rfl (v := .int .i64 i) (w1 := W') ?_ (hK _ _ ⟨⟨b0, b1, b2, b3, b4, true, b6, b7, b8, b9, b10, b11, b12, b13, b14, b15, b16, b17, b18, b19, b20, b21, b22, b23, b24, b25, gA, gC, gB⟩, rfl, rfl, (k0), (k1), (k2), (k3), (k4), (k5), (k6), (k7), (k8), hHA, hHC, hHD, hN1, hN2, hN3, hG1, hG2, hG3, hHO, hHB⟩)
          simp [go_sem, hu3]
        · simp only [List.getElem?_toArray, List.getElem?_cons_succ, List.getElem?_cons_zero, Option.some.injEq] at ho
          subst ho
          replace hf : b6 = false := hf
          have d5 : b5 = true := hd ⟨5, .data⟩ (by simp) rfl
          subst d5
          subst hf
          refine Go.Proofs.YtbmklpcheopgoaaReg.op_val ho2 rfl (v := .int .i64 ((i : Int) + 1)) (w1 := W') ?_ (hK _ _ ⟨⟨b0, b1, b2, b3, b4, true, true, b7, b8, b9, b10, b11, b12, b13, b14, b15, b16, b17, b18, b19, b20, b21, b22, b23, b24, b25, gA, gC, gB⟩, rfl, rfl, (k0), (k1), (k2), (k3), (k4), (k5), (k6), (k7), (k8), hHA, hHC, hHD, hN1, hN2, hN3, hG1, hG2, hG3, hHO, hHB⟩)
          simp [go_sem, hw1, hw1']
        · simp only [List.getElem?_toArray, List.getElem?_cons_succ, List.getElem?_cons_zero, Option.some.injEq] at ho
          subst ho
          replace hf : b7 = false := hf
          subst hf
          refine Go.Proofs.YtbmklpcheopgoaaReg.op_val ho2 rfl (v := .slice (some ad) l.length c0) (w1 := W') ?_ (hK _ _ ⟨⟨b0, b1, b2, b3, b4, b5, b6, true, b8, b9, b10, b11, b12, b13, b14, b15, b16, b17, b18, b19, b20, b21, b22, b23, b24, b25, gA, gC, gB⟩, rfl, rfl, (k0), (k1), (k2), (k3), (k4), (k5), (k6), (k7), (k8), hHA, hHC, hHD, hN1, hN2, hN3, hG1, hG2, hG3, hHO, hHB⟩)
          simp [go_sem, hu3]
        · simp only [List.getElem?_toArray, List.getElem?_cons_succ, List.getElem?_cons_zero, Option.some.injEq] at ho
          subst ho
          replace hf : b8 = false := hf
          have d7 : b7 = true := hd ⟨7, .data⟩ (by simp) rfl
          subst d7
          subst hf
          refine Go.Proofs.YtbmklpcheopgoaaReg.op_val ho2 rfl (v := .int .i64 l.length) (w1 := W') ?_ (hK _ _ ⟨⟨b0, b1, b2, b3, b4, b5, b6, true, true, b9, b10, b11, b12, b13, b14, b15, b16, b17, b18, b19, b20, b21, b22, b23, b24, b25, gA, gC, gB⟩, rfl, rfl, (k0), (k1), (k2), (k3), (k4), (k5), (k6), (k7), (k8), hHA, hHC, hHD, hN1, hN2, hN3, hG1, hG2, hG3, hHO, hHB⟩)
          simp [go_sem, hu3]
        · simp only [List.getElem?_toArray, List.getElem?_cons_succ, List.getElem?_cons_zero, Option.some.injEq] at ho
          subst ho
          replace hf : b9 = false := hf
          have d6 : b6 = true := hd ⟨6, .data⟩ (by simp) rfl
          have d8 : b8 = true := hd ⟨8, .data⟩ (by simp) rfl
          subst d6
          subst d8
          subst hf
          refine Go.Proofs.YtbmklpcheopgoaaReg.op_val ho2 rfl (v := .int .i64 j1) (w1 := W') ?_ (hK _ _ ⟨⟨b0, b1, b2, b3, b4, b5, true, b7, true, true, b10, b11, b12, b13, b14, b15, b16, b17, b18, b19, b20, b21, b22, b23, b24, b25, gA, gC, gB⟩, rfl, rfl, (k0), (k1), (k2), (k3), (k4), (k5), (k6), (k7), (k8), hHA, hHC, hHD, hN1, hN2, hN3, hG1, hG2, hG3, hHO, hHB⟩)
          simp [go_sem, hm1, hn0, hm1', hne]
        · simp only [List.getElem?_toArray, List.getElem?_cons_succ, List.getElem?_cons_zero, Option.some.injEq] at ho
          subst ho
          replace hf : b10 = false := hf
          have d4 : b4 = true := hd ⟨4, .data⟩ (by simp) rfl
          have d9 : b9 = true := hd ⟨9, .data⟩ (by simp) rfl
          subst d4
          subst d9
          subst hf
          refine Go.Proofs.YtbmklpcheopgoaaReg.op_val ho2 rfl (v := .pointer (some (ad.add (j1 * 3)))) (w1 := W') ?_ (hK _ _ ⟨⟨b0, b1, b2, b3, true, b5, b6, b7, b8, true, true, b11, b12, b13, b14, b15, b16, b17, b18, b19, b20, b21, b22, b23, b24, b25, gA, gC, gB⟩, rfl, rfl, (k0), (k1), (k2), (k3), (k4), (k5), (k6), (k7), (k8), hHA, hHC, hHD, hN1, hN2, hN3, hG1, hG2, hG3, hHO, hHB⟩)
          simp [go_sem, hu3, hlj1]
        · simp only [List.getElem?_toArray, List.getElem?_cons_succ, List.getElem?_cons_zero, Option.some.injEq] at ho
          subst ho
          replace hf : b11 = false := hf
          have d10 : b10 = true := hd ⟨10, .data⟩ (by simp) rfl
          subst d10
          subst hf
          refine Go.Proofs.YtbmklpcheopgoaaReg.op_val ho2 rfl (v := .agg #[.int .i64 (rd_T101 l ((j1 : Nat) : Int)).f0.f0, .int .i64 (rd_T101 l ((j1 : Nat) : Int)).f0.f1, .bool (rd_T101 l ((j1 : Nat) : Int)).f1]) (w1 := W') ?_ (hK _ _ ⟨⟨b0, b1, b2, b3, b4, b5, b6, b7, b8, b9, true, true, b12, b13, b14, b15, b16, b17, b18, b19, b20, b21, b22, b23, b24, b25, gA, gC, gB⟩, rfl, rfl, (k0), (k1), (k2), (k3), (k4), (k5), (k6), (k7), (k8), hHA, hHC, hHD, hN1, hN2, hN3, hG1, hG2, hG3, hHO, hHB⟩)
          simp [go_sem, hu, hu2, (hHB.cell (World.block_lt_of_cell? wr _ fc0)).trans fc0, (hHB.cell (World.block_lt_of_cell? wr _ fc1)).trans fc1, (hHB.cell (World.block_lt_of_cell? wr _ fc2)).trans fc2]
        · simp only [List.getElem?_toArray, List.getElem?_cons_succ, List.getElem?_cons_zero, Option.some.injEq] at ho
          subst ho
          replace hf : b12 = false := hf
          subst hf
          refine Go.Proofs.YtbmklpcheopgoaaReg.op_val ho2 rfl (v := .slice (some ad) l.length c0) (w1 := W') ?_ (hK _ _ ⟨⟨b0, b1, b2, b3, b4, b5, b6, b7, b8, b9, b10, b11, true, b13, b14, b15, b16, b17, b18, b19, b20, b21, b22, b23, b24, b25, gA, gC, gB⟩, rfl, rfl, (k0), (k1), (k2), (k3), (k4), (k5), (k6), (k7), (k8), hHA, hHC, hHD, hN1, hN2, hN3, hG1, hG2, hG3, hHO, hHB⟩)
          simp [go_sem, hu3]
        · simp only [List.getElem?_toArray, List.getElem?_cons_succ, List.getElem?_cons_zero, Option.some.injEq] at ho
          subst ho
          replace hf : b13 = false := hf
          subst hf
          refine Go.Proofs.YtbmklpcheopgoaaReg.op_val ho2 rfl (v := .int .i64 i) (w1 := W') ?_ (hK _ _ ⟨⟨b0, b1, b2, b3, b4, b5, b6, b7, b8, b9, b10, b11, b12, true, b14, b15, b16, b17, b18, b19, b20, b21, b22, b23, b24, b25, gA, gC, gB⟩, rfl, rfl, (k0), (k1), (k2), (k3), (k4), (k5), (k6), (k7), (k8), hHA, hHC, hHD, hN1, hN2, hN3, hG1, hG2, hG3, hHO, hHB⟩)
          simp [go_sem, hu3]
        · simp only [List.getElem?_toArray, List.getElem?_cons_succ, List.getElem?_cons_zero, Option.some.injEq] at ho
          subst ho
          replace hf : b14 = false := hf
          have d13 : b13 = true := hd ⟨13, .data⟩ (by simp) rfl
          subst d13
          subst hf
          refine Go.Proofs.YtbmklpcheopgoaaReg.op_val ho2 rfl (v := .int .i64 ((i : Int) + 2)) (w1 := W') ?_ (hK _ _ ⟨⟨b0, b1, b2, b3, b4, b5, b6, b7, b8, b9, b10, b11, b12, true, true, b15, b16, b17, b18, b19, b20, b21, b22, b23, b24, b25, gA, gC, gB⟩, rfl, rfl, (k0), (k1), (k2), (k3), (k4), (k5), (k6), (k7), (k8), hHA, hHC, hHD, hN1, hN2, hN3, hG1, hG2, hG3, hHO, hHB⟩)
          simp [go_sem, hw2, hw2']
        · simp only [List.getElem?_toArray, List.getElem?_cons_succ, List.getElem?_cons_zero, Option.some.injEq] at ho
          subst ho
          replace hf : b15 = false := hf
          subst hf
          refine Go.Proofs.YtbmklpcheopgoaaReg.op_val ho2 rfl (v := .slice (some ad) l.length c0) (w1 := W') ?_ (hK _ _ ⟨⟨b0, b1, b2, b3, b4, b5, b6, b7, b8, b9, b10, b11, b12, b13, b14, true, b16, b17, b18, b19, b20, b21, b22, b23, b24, b25, gA, gC, gB⟩, rfl, rfl, (k0), (k1), (k2), (k3), (k4), (k5), (k6), (k7), (k8), hHA, hHC, hHD, hN1, hN2, hN3, hG1, hG2, hG3, hHO, hHB⟩)
          simp [go_sem, hu3]
        · simp only [List.getElem?_toArray, List.getElem?_cons_succ, List.getElem?_cons_zero, Option.some.injEq] at ho
          subst ho
          replace hf : b16 = false := hf
          have d15 : b15 = true := hd ⟨15, .data⟩ (by simp) rfl
          subst d15
          subst hf
          refine Go.Proofs.YtbmklpcheopgoaaReg.op_val ho2 rfl (v := .int .i64 l.length) (w1 := W') ?_ (hK _ _ ⟨⟨b0, b1, b2, b3, b4, b5, b6, b7, b8, b9, b10, b11, b12, b13, b14, true, true, b17, b18, b19, b20, b21, b22, b23, b24, b25, gA, gC, gB⟩, rfl, rfl, (k0), (k1), (k2), (k3), (k4), (k5), (k6), (k7), (k8), hHA, hHC, hHD, hN1, hN2, hN3, hG1, hG2, hG3, hHO, hHB⟩)
          simp [go_sem, hu3]
        · simp only [List.getElem?_toArray, List.getElem?_cons_succ, List.getElem?_cons_zero, Option.some.injEq] at ho
          subst ho
          replace hf : b17 = false := hf
          have d14 : b14 = true := hd ⟨14, .data⟩ (by simp) rfl
          have d16 : b16 = true := hd ⟨16, .data⟩ (by simp) rfl
          subst d14
          subst d16
          subst hf
          refine Go.Proofs.YtbmklpcheopgoaaReg.op_val ho2 rfl (v := .int .i64 j2) (w1 := W') ?_ (hK _ _ ⟨⟨b0, b1, b2, b3, b4, b5, b6, b7, b8, b9, b10, b11, b12, b13, true, b15, true, true, b18, b19, b20, b21, b22, b23, b24, b25, gA, gC, gB⟩, rfl, rfl, (k0), (k1), (k2), (k3), (k4), (k5), (k6), (k7), (k8), hHA, hHC, hHD, hN1, hN2, hN3, hG1, hG2, hG3, hHO, hHB⟩)
          simp [go_sem, hm2, hn0, hm2', hne]
        · simp only [List.getElem?_toArray, List.getElem?_cons_succ, List.getElem?_cons_zero, Option.some.injEq] at ho
          subst ho
          replace hf : b18 = false := hf
          have d12 : b12 = true := hd ⟨12, .data⟩ (by simp) rfl
          have d17 : b17 = true := hd ⟨17, .data⟩ (by simp) rfl
          subst d12
          subst d17
          subst hf
          refine Go.Proofs.YtbmklpcheopgoaaReg.op_val ho2 rfl (v := .pointer (some (ad.add (j2 * 3)))) (w1 := W') ?_ (hK _ _ ⟨⟨b0, b1, b2, b3, b4, b5, b6, b7, b8, b9, b10, b11, true, b13, b14, b15, b16, true, true, b19, b20, b21, b22, b23, b24, b25, gA, gC, gB⟩, rfl, rfl, (k0), (k1), (k2), (k3), (k4), (k5), (k6), (k7), (k8), hHA, hHC, hHD, hN1, hN2, hN3, hG1, hG2, hG3, hHO, hHB⟩)
          simp [go_sem, hu3, hlj2]
        · simp only [List.getElem?_toArray, List.getElem?_cons_succ, List.getElem?_cons_zero, Option.some.injEq] at ho
          subst ho
          replace hf : b19 = false := hf
          have d18 : b18 = true := hd ⟨18, .data⟩ (by simp) rfl
          subst d18
          subst hf
          refine Go.Proofs.YtbmklpcheopgoaaReg.op_val ho2 rfl (v := .agg #[.int .i64 (rd_T101 l ((j2 : Nat) : Int)).f0.f0, .int .i64 (rd_T101 l ((j2 : Nat) : Int)).f0.f1, .bool (rd_T101 l ((j2 : Nat) : Int)).f1]) (w1 := W') ?_ (hK _ _ ⟨⟨b0, b1, b2, b3, b4, b5, b6, b7, b8, b9, b10, b11, b12, b13, b14, b15, b16, b17, true, true, b20, b21, b22, b23, b24, b25, gA, gC, gB⟩, rfl, rfl, (k0), (k1), (k2), (k3), (k4), (k5), (k6), (k7), (k8), hHA, hHC, hHD, hN1, hN2, hN3, hG1, hG2, hG3, hHO, hHB⟩)
          simp [go_sem, hu, hu2, (hHB.cell (World.block_lt_of_cell? wr _ fb0)).trans fb0, (hHB.cell (World.block_lt_of_cell? wr _ fb1)).trans fb1, (hHB.cell (World.block_lt_of_cell? wr _ fb2)).trans fb2]
        · simp only [List.getElem?_toArray, List.getElem?_cons_succ, List.getElem?_cons_zero, Option.some.injEq] at ho
          subst ho
          replace hf : b20 = false := hf
          have n23 : b23 = false := Bool.eq_false_iff.mpr (fun h => absurd (k0 h) (by rw [hf]; decide))
          have n24 : b24 = false := Bool.eq_false_iff.mpr (fun h => absurd (k3 h) (by rw [hf]; decide))
          have n25 : b25 = false := Bool.eq_false_iff.mpr (fun h => absurd (k6 h) (by rw [hf]; decide))
          subst n23
          subst n24
          subst n25
          subst hf
          refine Go.Proofs.YtbmklpcheopgoaaReg.op_val ho2 rfl (v := .pointer (some ⟨(W'.heap.size), 0, none⟩)) (w1 := W'.alloc (.cells #[.int .i64 0, .int .i64 0, .bool false] 101)) ?_ (hK _ _ ⟨⟨b0, b1, b2, b3, b4, b5, b6, b7, b8, b9, b10, b11, b12, b13, b14, b15, b16, b17, b18, b19, true, b21, b22, false, false, false, W'.heap.size, gC, gB⟩, rfl, rfl, (fun _ => rfl), (fun h => Bool.noConfusion h), (fun h => Bool.noConfusion h), (fun _ => rfl), (fun h => Bool.noConfusion h), (fun h => Bool.noConfusion h), (fun _ => rfl), (fun h => Bool.noConfusion h), (fun h => Bool.noConfusion h), (fun _ => blk_new W' (.cells #[.int .i64 0, .int .i64 0, .bool false] 101)), (fun h => blk_alloc (hHC h) _), (fun h => blk_alloc (hHD h) _), (fun _ h e => absurd (blk_lt (hHC h)) (by dsimp only at e; omega)), (fun _ h e => absurd (blk_lt (hHD h)) (by dsimp only at e; omega)), hN3, (fun _ => hHB.size), hG2, hG3, (R_chg hHO ((Chg.refl (fun _ => False) _).alloc _) (fun _ _ => id)), (hHB.alloc hHB.size _)⟩)
          simp [go_sem, hu, hu2]
        · simp only [List.getElem?_toArray, List.getElem?_cons_succ, List.getElem?_cons_zero, Option.some.injEq] at ho
          subst ho
          replace hf : b21 = false := hf
          have n23 : b23 = false := Bool.eq_false_iff.mpr (fun h => absurd (k1 h) (by rw [hf]; decide))
          have n24 : b24 = false := Bool.eq_false_iff.mpr (fun h => absurd (k4 h) (by rw [hf]; decide))
          have n25 : b25 = false := Bool.eq_false_iff.mpr (fun h => absurd (k7 h) (by rw [hf]; decide))
          subst n23
          subst n24
          subst n25
          subst hf
          refine Go.Proofs.YtbmklpcheopgoaaReg.op_val ho2 rfl (v := .pointer (some ⟨(W'.heap.size), 0, none⟩)) (w1 := W'.alloc (.cells #[.int .i64 0, .int .i64 0, .bool false] 101)) ?_ (hK _ _ ⟨⟨b0, b1, b2, b3, b4, b5, b6, b7, b8, b9, b10, b11, b12, b13, b14, b15, b16, b17, b18, b19, b20, true, b22, false, false, false, gA, W'.heap.size, gB⟩, rfl, rfl, (fun h => Bool.noConfusion h), (fun _ => rfl), (fun h => Bool.noConfusion h), (fun h => Bool.noConfusion h), (fun _ => rfl), (fun h => Bool.noConfusion h), (fun h => Bool.noConfusion h), (fun _ => rfl), (fun h => Bool.noConfusion h), (fun h => blk_alloc (hHA h) _), (fun _ => blk_new W' (.cells #[.int .i64 0, .int .i64 0, .bool false] 101)), (fun h => blk_alloc (hHD h) _), (fun h _ e => absurd (blk_lt (hHA h)) (by dsimp only at e; omega)), hN2, (fun _ h e => absurd (blk_lt (hHD h)) (by dsimp only at e; omega)), hG1, (fun _ => hHB.size), hG3, (R_chg hHO ((Chg.refl (fun _ => False) _).alloc _) (fun _ _ => id)), (hHB.alloc hHB.size _)⟩)
          simp [go_sem, hu, hu2]
        · simp only [List.getElem?_toArray, List.getElem?_cons_succ, List.getElem?_cons_zero, Option.some.injEq] at ho
          subst ho
          replace hf : b22 = false := hf
          have n23 : b23 = false := Bool.eq_false_iff.mpr (fun h => absurd (k2 h) (by rw [hf]; decide))
          have n24 : b24 = false := Bool.eq_false_iff.mpr (fun h => absurd (k5 h) (by rw [hf]; decide))
          have n25 : b25 = false := Bool.eq_false_iff.mpr (fun h => absurd (k8 h) (by rw [hf]; decide))
          subst n23
          subst n24
          subst n25
          subst hf
          refine Go.Proofs.YtbmklpcheopgoaaReg.op_val ho2 rfl (v := .pointer (some ⟨(W'.heap.size), 0, none⟩)) (w1 := W'.alloc (.cells #[.int .i64 0, .int .i64 0, .bool false] 101)) ?_ (hK _ _ ⟨⟨b0, b1, b2, b3, b4, b5, b6, b7, b8, b9, b10, b11, b12, b13, b14, b15, b16, b17, b18, b19, b20, b21, true, false, false, false, gA, gC, W'.heap.size⟩, rfl, rfl, (fun h => Bool.noConfusion h), (fun h => Bool.noConfusion h), (fun _ => rfl), (fun h => Bool.noConfusion h), (fun h => Bool.noConfusion h), (fun _ => rfl), (fun h => Bool.noConfusion h), (fun h => Bool.noConfusion h), (fun _ => rfl), (fun h => blk_alloc (hHA h) _), (fun h => blk_alloc (hHC h) _), (fun _ => blk_new W' (.cells #[.int .i64 0, .int .i64 0, .bool false] 101)), hN1, (fun h _ e => absurd (blk_lt (hHA h)) (by dsimp only at e; omega)), (fun h _ e => absurd (blk_lt (hHC h)) (by dsimp only at e; omega)), hG1, hG2, (fun _ => hHB.size), (R_chg hHO ((Chg.refl (fun _ => False) _).alloc _) (fun _ _ => id)), (hHB.alloc hHB.size _)⟩)
          simp [go_sem, hu, hu2]
        · simp only [List.getElem?_toArray, List.getElem?_cons_succ, List.getElem?_cons_zero, Option.some.injEq] at ho
          subst ho
          replace hf : b23 = false := hf
          have d0 : b0 = true := hd ⟨0, .phase⟩ (by simp) rfl
          have d1 : b1 = true := hd ⟨1, .phase⟩ (by simp) rfl
          have d2 : b2 = true := hd ⟨2, .phase⟩ (by simp) rfl
          have d3 : b3 = true := hd ⟨3, .data⟩ (by simp) rfl
          have d20 : b20 = true := hd ⟨20, .data⟩ (by simp) rfl
          have d21 : b21 = true := hd ⟨21, .phase⟩ (by simp) rfl
          have d22 : b22 = true := hd ⟨22, .phase⟩ (by simp) rfl
          subst d0
          subst d1
          subst d2
          subst d3
          subst d20
          subst d21
          subst d22
          subst hf
          refine Go.Proofs.YtbmklpcheopgoaaReg.op_skip ho2 rfl (w1 := (((W'.setCell ⟨gA, 0, none⟩ (.int .i64 (rd_T101 l ((i : Nat) : Int)).f0.f0)).setCell ⟨gA, 1, none⟩ (.int .i64 (rd_T101 l ((i : Nat) : Int)).f0.f1)).setCell ⟨gA, 2, none⟩ (.bool (rd_T101 l ((i : Nat) : Int)).f1))) ?_ (hK _ _ ⟨⟨true, true, true, true, b4, b5, b6, b7, b8, b9, b10, b11, b12, b13, b14, b15, b16, b17, b18, b19, true, true, true, true, b24, b25, gA, gC, gB⟩, rfl, rfl, (fun _ => rfl), (fun _ => rfl), (fun _ => rfl), (fun _ => rfl), (fun _ => rfl), (fun _ => rfl), (fun _ => rfl), (fun _ => rfl), (fun _ => rfl), (fun _ => (blk_put (blk_put (blk_put (hHA rfl) 0 (.int .i64 (rd_T101 l ((i : Nat) : Int)).f0.f0) rfl) 1 (.int .i64 (rd_T101 l ((i : Nat) : Int)).f0.f1) rfl) 2 (.bool (rd_T101 l ((i : Nat) : Int)).f1) rfl)), (fun _ => Chg.heap (Chg.setCell (p := ⟨gA, 2, none⟩) (Chg.setCell (p := ⟨gA, 1, none⟩) (Chg.setCell (p := ⟨gA, 0, none⟩) (Chg.refl (fun b => b = gA) W') (fun _ => rfl) (.int .i64 (rd_T101 l ((i : Nat) : Int)).f0.f0)) (fun _ => rfl) (.int .i64 (rd_T101 l ((i : Nat) : Int)).f0.f1)) (fun _ => rfl) (.bool (rd_T101 l ((i : Nat) : Int)).f1)) (hHC rfl) (fun e => hN1 rfl rfl e.symm)), (fun _ => Chg.heap (Chg.setCell (p := ⟨gA, 2, none⟩) (Chg.setCell (p := ⟨gA, 1, none⟩) (Chg.setCell (p := ⟨gA, 0, none⟩) (Chg.refl (fun b => b = gA) W') (fun _ => rfl) (.int .i64 (rd_T101 l ((i : Nat) : Int)).f0.f0)) (fun _ => rfl) (.int .i64 (rd_T101 l ((i : Nat) : Int)).f0.f1)) (fun _ => rfl) (.bool (rd_T101 l ((i : Nat) : Int)).f1)) (hHD rfl) (fun e => hN2 rfl rfl e.symm)), hN1, hN2, hN3, hG1, hG2, hG3, (R_chg hHO (Chg.setCell (p := ⟨gA, 2, none⟩) (Chg.setCell (p := ⟨gA, 1, none⟩) (Chg.setCell (p := ⟨gA, 0, none⟩) (Chg.refl (fun b => b = gA) W') (fun _ => rfl) (.int .i64 (rd_T101 l ((i : Nat) : Int)).f0.f0)) (fun _ => rfl) (.int .i64 (rd_T101 l ((i : Nat) : Int)).f0.f1)) (fun _ => rfl) (.bool (rd_T101 l ((i : Nat) : Int)).f1)) (fun k hk e => by subst e; have := hOlt k hk; have := hG1 rfl; omega)), (Below.setCell (Below.setCell (Below.setCell hHB (hG1 rfl) (.int .i64 (rd_T101 l ((i : Nat) : Int)).f0.f0)) (hG1 rfl) (.int .i64 (rd_T101 l ((i : Nat) : Int)).f0.f1)) (hG1 rfl) (.bool (rd_T101 l ((i : Nat) : Int)).f1))⟩)
          simp [go_sem, hu, hu2, blk_cell (hHA rfl) 0, blk_cell (hHA rfl) 1, blk_cell (hHA rfl) 2, blk_frozen (hHA rfl) 0, blk_frozen (hHA rfl) 1, blk_frozen (hHA rfl) 2]
        · simp only [List.getElem?_toArray, List.getElem?_cons_succ, List.getElem?_cons_zero, Option.some.injEq] at ho
          subst ho
          replace hf : b24 = false := hf
          have d0 : b0 = true := hd ⟨0, .phase⟩ (by simp) rfl
          have d1 : b1 = true := hd ⟨1, .phase⟩ (by simp) rfl
          have d2 : b2 = true := hd ⟨2, .phase⟩ (by simp) rfl
          have d3 : b3 = true := hd ⟨3, .phase⟩ (by simp) rfl
          have d4 : b4 = true := hd ⟨4, .phase⟩ (by simp) rfl
          have d5 : b5 = true := hd ⟨5, .phase⟩ (by simp) rfl
          have d6 : b6 = true := hd ⟨6, .phase⟩ (by simp) rfl
          have d7 : b7 = true := hd ⟨7, .phase⟩ (by simp) rfl
          have d8 : b8 = true := hd ⟨8, .phase⟩ (by simp) rfl
          have d9 : b9 = true := hd ⟨9, .phase⟩ (by simp) rfl
          have d10 : b10 = true := hd ⟨10, .phase⟩ (by simp) rfl
          have d11 : b11 = true := hd ⟨11, .data⟩ (by simp) rfl
          have d20 : b20 = true := hd ⟨20, .phase⟩ (by simp) rfl
          have d21 : b21 = true := hd ⟨21, .data⟩ (by simp) rfl
          have d22 : b22 = true := hd ⟨22, .phase⟩ (by simp) rfl
          have d23 : b23 = true := hd ⟨23, .chain⟩ (by simp) rfl
          subst d0
          subst d1
          subst d2
          subst d3
          subst d4
          subst d5
          subst d6
          subst d7
          subst d8
          subst d9
          subst d10
          subst d11
          subst d20
          subst d21
          subst d22
          subst d23
          subst hf
          refine Go.Proofs.YtbmklpcheopgoaaReg.op_skip ho2 rfl (w1 := (((W'.setCell ⟨gC, 0, none⟩ (.int .i64 (rd_T101 l ((j1 : Nat) : Int)).f0.f0)).setCell ⟨gC, 1, none⟩ (.int .i64 (rd_T101 l ((j1 : Nat) : Int)).f0.f1)).setCell ⟨gC, 2, none⟩ (.bool (rd_T101 l ((j1 : Nat) : Int)).f1))) ?_ (hK _ _ ⟨⟨true, true, true, true, true, true, true, true, true, true, true, true, b12, b13, b14, b15, b16, b17, b18, b19, true, true, true, true, true, b25, gA, gC, gB⟩, rfl, rfl, (fun _ => rfl), (fun _ => rfl), (fun _ => rfl), (fun _ => rfl), (fun _ => rfl), (fun _ => rfl), (fun _ => rfl), (fun _ => rfl), (fun _ => rfl), (fun _ => Chg.heap (Chg.setCell (p := ⟨gC, 2, none⟩) (Chg.setCell (p := ⟨gC, 1, none⟩) (Chg.setCell (p := ⟨gC, 0, none⟩) (Chg.refl (fun b => b = gC) W') (fun _ => rfl) (.int .i64 (rd_T101 l ((j1 : Nat) : Int)).f0.f0)) (fun _ => rfl) (.int .i64 (rd_T101 l ((j1 : Nat) : Int)).f0.f1)) (fun _ => rfl) (.bool (rd_T101 l ((j1 : Nat) : Int)).f1)) (hHA rfl) (fun e => hN1 rfl rfl e)), (fun _ => (blk_put (blk_put (blk_put (hHC rfl) 0 (.int .i64 (rd_T101 l ((j1 : Nat) : Int)).f0.f0) rfl) 1 (.int .i64 (rd_T101 l ((j1 : Nat) : Int)).f0.f1) rfl) 2 (.bool (rd_T101 l ((j1 : Nat) : Int)).f1) rfl)), (fun _ => Chg.heap (Chg.setCell (p := ⟨gC, 2, none⟩) (Chg.setCell (p := ⟨gC, 1, none⟩) (Chg.setCell (p := ⟨gC, 0, none⟩) (Chg.refl (fun b => b = gC) W') (fun _ => rfl) (.int .i64 (rd_T101 l ((j1 : Nat) : Int)).f0.f0)) (fun _ => rfl) (.int .i64 (rd_T101 l ((j1 : Nat) : Int)).f0.f1)) (fun _ => rfl) (.bool (rd_T101 l ((j1 : Nat) : Int)).f1)) (hHD rfl) (fun e => hN3 rfl rfl e.symm)), hN1, hN2, hN3, hG1, hG2, hG3, (R_chg hHO (Chg.setCell (p := ⟨gC, 2, none⟩) (Chg.setCell (p := ⟨gC, 1, none⟩) (Chg.setCell (p := ⟨gC, 0, none⟩) (Chg.refl (fun b => b = gC) W') (fun _ => rfl) (.int .i64 (rd_T101 l ((j1 : Nat) : Int)).f0.f0)) (fun _ => rfl) (.int .i64 (rd_T101 l ((j1 : Nat) : Int)).f0.f1)) (fun _ => rfl) (.bool (rd_T101 l ((j1 : Nat) : Int)).f1)) (fun k hk e => by subst e; have := hOlt k hk; have := hG2 rfl; omega)), (Below.setCell (Below.setCell (Below.setCell hHB (hG2 rfl) (.int .i64 (rd_T101 l ((j1 : Nat) : Int)).f0.f0)) (hG2 rfl) (.int .i64 (rd_T101 l ((j1 : Nat) : Int)).f0.f1)) (hG2 rfl) (.bool (rd_T101 l ((j1 : Nat) : Int)).f1))⟩)
          simp [go_sem, hu, hu2, blk_cell (hHC rfl) 0, blk_cell (hHC rfl) 1, blk_cell (hHC rfl) 2, blk_frozen (hHC rfl) 0, blk_frozen (hHC rfl) 1, blk_frozen (hHC rfl) 2]
        · simp only [List.getElem?_toArray, List.getElem?_cons_succ, List.getElem?_cons_zero, Option.some.injEq] at ho
          subst ho
          replace hf : b25 = false := hf
          have d0 : b0 = true := hd ⟨0, .phase⟩ (by simp) rfl
          have d1 : b1 = true := hd ⟨1, .phase⟩ (by simp) rfl
          have d2 : b2 = true := hd ⟨2, .phase⟩ (by simp) rfl
          have d3 : b3 = true := hd ⟨3, .phase⟩ (by simp) rfl
          have d4 : b4 = true := hd ⟨4, .phase⟩ (by simp) rfl
          have d5 : b5 = true := hd ⟨5, .phase⟩ (by simp) rfl
          have d6 : b6 = true := hd ⟨6, .phase⟩ (by simp) rfl
          have d7 : b7 = true := hd ⟨7, .phase⟩ (by simp) rfl
          have d8 : b8 = true := hd ⟨8, .phase⟩ (by simp) rfl
          have d9 : b9 = true := hd ⟨9, .phase⟩ (by simp) rfl
          have d10 : b10 = true := hd ⟨10, .phase⟩ (by simp) rfl
          have d11 : b11 = true := hd ⟨11, .phase⟩ (by simp) rfl
          have d12 : b12 = true := hd ⟨12, .phase⟩ (by simp) rfl
          have d13 : b13 = true := hd ⟨13, .phase⟩ (by simp) rfl
          have d14 : b14 = true := hd ⟨14, .phase⟩ (by simp) rfl
          have d15 : b15 = true := hd ⟨15, .phase⟩ (by simp) rfl
          have d16 : b16 = true := hd ⟨16, .phase⟩ (by simp) rfl
          have d17 : b17 = true := hd ⟨17, .phase⟩ (by simp) rfl
          have d18 : b18 = true := hd ⟨18, .phase⟩ (by simp) rfl
          have d19 : b19 = true := hd ⟨19, .data⟩ (by simp) rfl
          have d20 : b20 = true := hd ⟨20, .phase⟩ (by simp) rfl
          have d21 : b21 = true := hd ⟨21, .phase⟩ (by simp) rfl
          have d22 : b22 = true := hd ⟨22, .data⟩ (by simp) rfl
          have d23 : b23 = true := hd ⟨23, .phase⟩ (by simp) rfl
          have d24 : b24 = true := hd ⟨24, .chain⟩ (by simp) rfl
          subst d0
          subst d1
          subst d2
          subst d3
          subst d4
          subst d5
          subst d6
          subst d7
          subst d8
          subst d9
          subst d10
          subst d11
          subst d12
          subst d13
          subst d14
          subst d15
          subst d16
          subst d17
          subst d18
          subst d19
          subst d20
          subst d21
          subst d22
          subst d23
          subst d24
          subst hf
          refine Go.Proofs.YtbmklpcheopgoaaReg.op_skip ho2 rfl (w1 := (((W'.setCell ⟨gB, 0, none⟩ (.int .i64 (rd_T101 l ((j2 : Nat) : Int)).f0.f0)).setCell ⟨gB, 1, none⟩ (.int .i64 (rd_T101 l ((j2 : Nat) : Int)).f0.f1)).setCell ⟨gB, 2, none⟩ (.bool (rd_T101 l ((j2 : Nat) : Int)).f1))) ?_ (hK _ _ ⟨⟨true, true, true, true, true, true, true, true, true, true, true, true, true, true, true, true, true, true, true, true, true, true, true, true, true, true, gA, gC, gB⟩, rfl, rfl, (fun _ => rfl), (fun _ => rfl), (fun _ => rfl), (fun _ => rfl), (fun _ => rfl), (fun _ => rfl), (fun _ => rfl), (fun _ => rfl), (fun _ => rfl), (fun _ => Chg.heap (Chg.setCell (p := ⟨gB, 2, none⟩) (Chg.setCell (p := ⟨gB, 1, none⟩) (Chg.setCell (p := ⟨gB, 0, none⟩) (Chg.refl (fun b => b = gB) W') (fun _ => rfl) (.int .i64 (rd_T101 l ((j2 : Nat) : Int)).f0.f0)) (fun _ => rfl) (.int .i64 (rd_T101 l ((j2 : Nat) : Int)).f0.f1)) (fun _ => rfl) (.bool (rd_T101 l ((j2 : Nat) : Int)).f1)) (hHA rfl) (fun e => hN2 rfl rfl e)), (fun _ => Chg.heap (Chg.setCell (p := ⟨gB, 2, none⟩) (Chg.setCell (p := ⟨gB, 1, none⟩) (Chg.setCell (p := ⟨gB, 0, none⟩) (Chg.refl (fun b => b = gB) W') (fun _ => rfl) (.int .i64 (rd_T101 l ((j2 : Nat) : Int)).f0.f0)) (fun _ => rfl) (.int .i64 (rd_T101 l ((j2 : Nat) : Int)).f0.f1)) (fun _ => rfl) (.bool (rd_T101 l ((j2 : Nat) : Int)).f1)) (hHC rfl) (fun e => hN3 rfl rfl e)), (fun _ => (blk_put (blk_put (blk_put (hHD rfl) 0 (.int .i64 (rd_T101 l ((j2 : Nat) : Int)).f0.f0) rfl) 1 (.int .i64 (rd_T101 l ((j2 : Nat) : Int)).f0.f1) rfl) 2 (.bool (rd_T101 l ((j2 : Nat) : Int)).f1) rfl)), hN1, hN2, hN3, hG1, hG2, hG3, (R_chg hHO (Chg.setCell (p := ⟨gB, 2, none⟩) (Chg.setCell (p := ⟨gB, 1, none⟩) (Chg.setCell (p := ⟨gB, 0, none⟩) (Chg.refl (fun b => b = gB) W') (fun _ => rfl) (.int .i64 (rd_T101 l ((j2 : Nat) : Int)).f0.f0)) (fun _ => rfl) (.int .i64 (rd_T101 l ((j2 : Nat) : Int)).f0.f1)) (fun _ => rfl) (.bool (rd_T101 l ((j2 : Nat) : Int)).f1)) (fun k hk e => by subst e; have := hOlt k hk; have := hG3 rfl; omega)), (Below.setCell (Below.setCell (Below.setCell hHB (hG3 rfl) (.int .i64 (rd_T101 l ((j2 : Nat) : Int)).f0.f0)) (hG3 rfl) (.int .i64 (rd_T101 l ((j2 : Nat) : Int)).f0.f1)) (hG3 rfl) (.bool (rd_T101 l ((j2 : Nat) : Int)).f1))⟩)
          simp [go_sem, hu, hu2, blk_cell (hHD rfl) 0, blk_cell (hHD rfl) 1, blk_cell (hHD rfl) 2, blk_frozen (hHD rfl) 0, blk_frozen (hHD rfl) 1, blk_frozen (hHD rfl) 2]
      · rintro lst a W' ⟨⟨b0, b1, b2, b3, b4, b5, b6, b7, b8, b9, b10, b11, b12, b13, b14, b15, b16, b17, b18, b19, b20, b21, b22, b23, b24, b25, gA, gC, gB⟩, rfl, rfl, k0, k1, k2, k3, k4, k5, k6, k7, k8, hHA, hHC, hHD, hN1, hN2, hN3, hG1, hG2, hG3, hHO, hHB⟩ hall
        dsimp only at k0 k1 k2 k3 k4 k5 k6 k7 k8 hHA hHC hHD hN1 hN2 hN3 hG1 hG2 hG3 hHO hHB
        have a0 : b0 = true := hall 0 (by decide)
        have a1 : b1 = true := hall 1 (by decide)
        have a2 : b2 = true := hall 2 (by decide)
        have a3 : b3 = true := hall 3 (by decide)
        have a4 : b4 = true := hall 4 (by decide)
        have a5 : b5 = true := hall 5 (by decide)
        have a6 : b6 = true := hall 6 (by decide)
        have a7 : b7 = true := hall 7 (by decide)
        have a8 : b8 = true := hall 8 (by decide)
        have a9 : b9 = true := hall 9 (by decide)
        have a10 : b10 = true := hall 10 (by decide)
        have a11 : b11 = true := hall 11 (by decide)
        have a12 : b12 = true := hall 12 (by decide)
        have a13 : b13 = true := hall 13 (by decide)
        have a14 : b14 = true := hall 14 (by decide)
        have a15 : b15 = true := hall 15 (by decide)
        have a16 : b16 = true := hall 16 (by decide)
        have a17 : b17 = true := hall 17 (by decide)
        have a18 : b18 = true := hall 18 (by decide)
        have a19 : b19 = true := hall 19 (by decide)
        have a20 : b20 = true := hall 20 (by decide)
        have a21 : b21 = true := hall 21 (by decide)
        have a22 : b22 = true := hall 22 (by decide)
        have a23 : b23 = true := hall 23 (by decide)
        have a24 : b24 = true := hall 24 (by decide)
        have a25 : b25 = true := hall 25 (by decide)
        subst a0 a1 a2 a3 a4 a5 a6 a7 a8 a9 a10 a11 a12 a13 a14 a15 a16 a17 a18 a19 a20 a21 a22 a23 a24 a25
        clear k0 k1 k2 k3 k4 k5 k6 k7 k8
        clear hall
        have HA : W'.heap[gA]? = some (.cells #[cond true (.int .i64 (rd_T101 l ((i : Nat) : Int)).f0.f0) (.int .i64 0), cond true (.int .i64 (rd_T101 l ((i : Nat) : Int)).f0.f1) (.int .i64 0), cond true (.bool (rd_T101 l ((i : Nat) : Int)).f1) (.bool false)] 101 (0, 0)) := hHA rfl
        have HC : W'.heap[gC]? = some (.cells #[cond true (.int .i64 (rd_T101 l ((j1 : Nat) : Int)).f0.f0) (.int .i64 0), cond true (.int .i64 (rd_T101 l ((j1 : Nat) : Int)).f0.f1) (.int .i64 0), cond true (.bool (rd_T101 l ((j1 : Nat) : Int)).f1) (.bool false)] 101 (0, 0)) := hHC rfl
        have HD : W'.heap[gB]? = some (.cells #[cond true (.int .i64 (rd_T101 l ((j2 : Nat) : Int)).f0.f0) (.int .i64 0), cond true (.int .i64 (rd_T101 l ((j2 : Nat) : Int)).f0.f1) (.int .i64 0), cond true (.bool (rd_T101 l ((j2 : Nat) : Int)).f1) (.bool false)] 101 (0, 0)) := hHD rfl
        have N1 : gA ≠ gC := hN1 rfl rfl
        have N2 : gA ≠ gB := hN2 rfl rfl
        have N3 : gC ≠ gB := hN3 rfl rfl
        have G1 : wr.heap.size ≤ gA := hG1 rfl
        have G2 : wr.heap.size ≤ gC := hG2 rfl
        have G3 : wr.heap.size ≤ gB := hG3 rfl
        have HO : Kd.R k52 52 W' w.heap.size (Own1 (.slice Ao out.length co)) (.slice Ao out.length co) out := hHO
        have HB : Below wr.heap.size wr W' := hHB
        clear hHA hHC hHD hN1 hN2 hN3 hG1 hG2 hG3 hHO hHB
        simp only [cond_true]
        have hBw : Below w.heap.size w W' := HB_.out.trans (HB.mono HB_.out.size)
        have g0 := blk_cell HC 0
        have g1 := blk_cell HC 1
        have g2 := blk_cell HC 2
        simp only [cond_true] at g0 g1 g2 HA HC HD
        simp at g0 g1 g2
        clear fa0 fa1 fa2 fc0 fc1 fc2 fb0 fb1 fb2
        have HOO := Lib.hid HO
        have hE := Lib.hid (And.intro hBw HG)
        have hOl2 : ∀ k, (Value.slice Ao out.length co).ownBlock = some k → k < wr.heap.size := hOlt
        clear HB hBw HG hOlt HO
        cases hon : (rd_T101 l ((j1 : Nat) : Int)).f1 with
        | true =>
          obtain ⟨v1, w1, hrun, hR1, hg1, hat⟩ := run_append1 (P := Try.prog) (ty := 42) k52 (W := W'.alloc (.cells #[.int .i64 (rd_T101 l ((j1 : Nat) : Int)).f0.f0, .int .i64 (rd_T101 l ((j1 : Nat) : Int)).f0.f1] 52)) w.heap.size Try.underlying42 info_pt2 rfl (by decide) (by decide) (.slice Ao out.length co) out (rd_T101 l ((j1 : Nat) : Int)).f0 [.int .i64 (rd_T101 l ((j1 : Nat) : Int)).f0.f0, .int .i64 (rd_T101 l ((j1 : Nat) : Int)).f0.f1] (fun _ => True) (fun _ => False) ⟨W'.heap.size, 0, none⟩ 1
            (fun j u hj => by rw [add_plain, ((Blks.nil W').alloc _).cell 0 rfl j]; simpa using hj) (k52_mkM _ _ _ _) (fun _ hk => hk.elim) (fun _ _ => trivial) (R_all (R_chg HOO.out ((Chg.refl (fun _ => False) _).alloc _) (fun _ _ => id))) (by have := hE.out.1.size; simp; omega) (by omega)
          have hR1 := R_own1 flat_pt2 hR1
          have hB1 := pw_below_grown (hE.out.1.alloc hE.out.1.size _) _ (hE.out.1.alloc hE.out.1.size _).size hg1 (fun k hk => Kd.R_base HOO.out k hk)
          have hJ := Lib.hid (And.intro hj1 hj2)
          have hRR := Lib.hid (And.intro hR1 hB1)
          clear hj1 hj2 hR1 hB1
          go_wp2_with (refine app_list rfl rfl rfl rfl hrun ?_)
          refine ⟨⟨i + 1, out ++ [(rd_T101 l ((j1 : Nat) : Int)).f0], by omega, by simp, by simp, by simp; omega, ⟨?_, hRR.out.1, hRR.out.2⟩⟩, by simp [intOf]; omega⟩
          rw [← hE.out.2, rowGo_on l i out hlt (by rw [hJ.out.1]; exact hon), hJ.out.1]
        | false =>
          have hB3 : Blks [(gA, .cells #[.int .i64 (rd_T101 l ((i : Nat) : Int)).f0.f0, .int .i64 (rd_T101 l ((i : Nat) : Int)).f0.f1, .bool (rd_T101 l ((i : Nat) : Int)).f1] 101 (0, 0)), (gC, .cells #[.int .i64 (rd_T101 l ((j1 : Nat) : Int)).f0.f0, .int .i64 (rd_T101 l ((j1 : Nat) : Int)).f0.f1, .bool (rd_T101 l ((j1 : Nat) : Int)).f1] 101 (0, 0)), (gB, .cells #[.int .i64 (rd_T101 l ((j2 : Nat) : Int)).f0.f0, .int .i64 (rd_T101 l ((j2 : Nat) : Int)).f0.f1, .bool (rd_T101 l ((j2 : Nat) : Int)).f1] 101 (0, 0))] W' := (((Blks.nil W').add HD (by simp)).add HC (by simpa using N3)).add HA (by simp; exact ⟨N1, N2⟩)
          have hJ := Lib.hid (And.intro hj1 hj2)
          clear hj1 hj2 HA HC HD g0 g1
          have hB3 := Lib.hid hB3
          have hons := Lib.hid hon
          go_wp2
          go_loopw [3, 8] (fun v3 v8 wr2 => ∃ m : Nat, m ≤ 8 ∧ v8 = .int .i64 ((1 + m : Nat) : Int) ∧ Aside0 (Kd.R k52 52 wr2 w.heap.size (Own1 v3) v3 (out ++ curveK l i m) ∧ Blks [(gA, .cells #[.int .i64 (rd_T101 l ((i : Nat) : Int)).f0.f0, .int .i64 (rd_T101 l ((i : Nat) : Int)).f0.f1, .bool (rd_T101 l ((i : Nat) : Int)).f1] 101 (0, 0)), (gC, .cells #[.int .i64 (rd_T101 l ((j1 : Nat) : Int)).f0.f0, .int .i64 (rd_T101 l ((j1 : Nat) : Int)).f0.f1, .bool (rd_T101 l ((j1 : Nat) : Int)).f1] 101 (0, 0)), (gB, .cells #[.int .i64 (rd_T101 l ((j2 : Nat) : Int)).f0.f0, .int .i64 (rd_T101 l ((j2 : Nat) : Int)).f0.f1, .bool (rd_T101 l ((j2 : Nat) : Int)).f1] 101 (0, 0))] wr2 ∧ Below w.heap.size w wr2))
            (fun _ v8 _ => 10 - (intOf v8).toNat)
          case atStart => exact ⟨0, by omega, rfl, ⟨by simpa [curveK] using HOO.out, hB3.out, hE.out.1⟩⟩
          case round =>
            obtain ⟨m, hm, rfl, ⟨HO, HB, HW⟩⟩ := hrel
            have hlen2 : (out ++ curveK l i m).length ≤ 9 + 8 * i := by rw [List.length_append, curveK_len]; omega
            by_cases hlt8 : m < 8
            · have hd8 : decide (1 + (m : Int) ≤ 8) = true := by simp; omega
              have hcv : curveAt l i (1 + m) = ⟨atV ((1 + m : Nat) : Int) (rd_T101 l ((i : Nat) : Int)).f0.f0 (rd_T101 l ((j1 : Nat) : Int)).f0.f0 (rd_T101 l ((j2 : Nat) : Int)).f0.f0, atV ((1 + m : Nat) : Int) (rd_T101 l ((i : Nat) : Int)).f0.f1 (rd_T101 l ((j1 : Nat) : Int)).f0.f1 (rd_T101 l ((j2 : Nat) : Int)).f0.f1⟩ := by unfold curveAt; rw [hJ.out.1, hJ.out.2]
              have hks := curveK_succ l i m
              rw [hcv] at hks
              have HKS := Lib.hid hks
              clear hks hcv
              obtain ⟨o2, ho2⟩ : ∃ o2, out ++ curveK l i m = o2 := ⟨_, rfl⟩
              rw [ho2] at HO hlen2
              have HO2 := Lib.hid ho2
              clear ho2
              obtain ⟨Ao2, co2, hv3⟩ := Kd.R_slice HO
              subst hv3
              have hRow25 : ∀ {W2 : World}, Blks [(gA, .cells #[.int .i64 (rd_T101 l ((i : Nat) : Int)).f0.f0, .int .i64 (rd_T101 l ((i : Nat) : Int)).f0.f1, .bool (rd_T101 l ((i : Nat) : Int)).f1] 101 (0, 0)), (gC, .cells #[.int .i64 (rd_T101 l ((j1 : Nat) : Int)).f0.f0, .int .i64 (rd_T101 l ((j1 : Nat) : Int)).f0.f1, .bool (rd_T101 l ((j1 : Nat) : Int)).f1] 101 (0, 0)), (gB, .cells #[.int .i64 (rd_T101 l ((j2 : Nat) : Int)).f0.f0, .int .i64 (rd_T101 l ((j2 : Nat) : Int)).f0.f1, .bool (rd_T101 l ((j2 : Nat) : Int)).f1] 101 (0, 0))] W2 → Kd.R k52 52 W2 w.heap.size (Own1 (.slice Ao2 o2.length co2)) (.slice Ao2 o2.length co2) o2 → ∀ b, b ∈ ([gA, gC, gB] : List Nat) → (Value.slice Ao2 o2.length co2).ownBlock = some b → False := fun hb ho => row_apart hb (by simp) ho
              have HHO := Lib.hid HO
              have HHB := Lib.hid HB
              have HHW := Lib.hid HW
              clear HO HB HW
              go_wp2
              have HO := HHO.out
              have HB := HHB.out
              have HW := HHW.out
              clear HHO HHB HHW
              refine Go.Proofs.YtbmklpcheopgoaaReg.reg_inv (by rfl) [0, 1, 2, 3, 4, 5, 6, 7, 8, 9, 10, 11, 12, 13, 14, 15, 16, 17, 18, 19, 20, 21, 22, 23, 24, 25, 26] (by kernel_rfl) (by kernel_rfl)
                (fun lst a W' => ∃ d : RowReg11, lst = #[d.b0, d.b1, d.b2, d.b3, d.b4, d.b5, d.b6, d.b7, d.b8, d.b9, d.b10, d.b11, d.b12, d.b13, d.b14, d.b15, d.b16, d.b17, d.b18, d.b19, d.b20, d.b21, d.b22, d.b23, d.b24, d.b25, d.b26] ∧ a = ⟨#[.slice (some ad) l.length c0, undef, .slice none 0 0, (cond d.b26 d.V1 (.slice Ao2 o2.length co2)), .int .i64 i, .pointer (some ⟨gA, 0, none⟩), .pointer (some ⟨gC, 0, none⟩), .pointer (some ⟨gB, 0, none⟩), .int .i64 (((1 + m : Nat) : Int)), .slice (some ad) l.length c0, .pointer (some ad), .pointer (some ad), .agg #[.int .i64 (rd_T101 l 0).f0.f0, .int .i64 (rd_T101 l 0).f0.f1], .slice (some ⟨w.heap.size, 0, none⟩) 1 1, .int .i64 i, .slice (some ad) l.length c0, .int .i64 l.length, .bool true, u18, u19, .slice (some ad) l.length c0, .int .i64 i, .pointer (some (ad.add (i * 3))), .agg #[.int .i64 (rd_T101 l ((i : Nat) : Int)).f0.f0, .int .i64 (rd_T101 l ((i : Nat) : Int)).f0.f1, .bool (rd_T101 l ((i : Nat) : Int)).f1], .slice (some ad) l.length c0, .int .i64 i, .int .i64 ((i : Int) + 1), .slice (some ad) l.length c0, .int .i64 l.length, .int .i64 j1, .pointer (some (ad.add (j1 * 3))), .agg #[.int .i64 (rd_T101 l ((j1 : Nat) : Int)).f0.f0, .int .i64 (rd_T101 l ((j1 : Nat) : Int)).f0.f1, .bool false], .slice (some ad) l.length c0, .int .i64 i, .int .i64 ((i : Int) + 2), .slice (some ad) l.length c0, .int .i64 l.length, .int .i64 j2, .pointer (some (ad.add (j2 * 3))), .agg #[.int .i64 (rd_T101 l ((j2 : Nat) : Int)).f0.f0, .int .i64 (rd_T101 l ((j2 : Nat) : Int)).f0.f1, .bool (rd_T101 l ((j2 : Nat) : Int)).f1], .pointer (some ⟨gC, 2, none⟩), .bool false, u42, u43, u44, u45, u46, .int .i64 (((1 + m : Nat) : Int)), .bool true, u49, u50, (cond d.b0 (.slice Ao2 o2.length co2) u51), (cond d.b1 (.int .i64 (((1 + m : Nat) : Int))) u52), (cond d.b2 (.pointer (some ⟨gA, 0, none⟩)) u53), (cond d.b3 (.pointer (some ⟨gA, 0, none⟩)) u54), (cond d.b4 (.int .i64 ((rd_T101 l ((i : Nat) : Int)).f0.f0)) u55), (cond d.b5 (.pointer (some ⟨gC, 0, none⟩)) u56), (cond d.b6 (.pointer (some ⟨gC, 0, none⟩)) u57), (cond d.b7 (.int .i64 ((rd_T101 l ((j1 : Nat) : Int)).f0.f0)) u58), (cond d.b8 (.pointer (some ⟨gB, 0, none⟩)) u59), (cond d.b9 (.pointer (some ⟨gB, 0, none⟩)) u60), (cond d.b10 (.int .i64 ((rd_T101 l ((j2 : Nat) : Int)).f0.f0)) u61), (cond d.b11 (.int .i64 ((atV ((1 + m : Nat) : Int) (rd_T101 l ((i : Nat) : Int)).f0.f0 (rd_T101 l ((j1 : Nat) : Int)).f0.f0 (rd_T101 l ((j2 : Nat) : Int)).f0.f0))) u62), (cond d.b12 (.int .i64 (((1 + m : Nat) : Int))) u63), (cond d.b13 (.pointer (some ⟨gA, 0, none⟩)) u64), (cond d.b14 (.pointer (some ⟨gA, 1, none⟩)) u65), (cond d.b15 (.int .i64 ((rd_T101 l ((i : Nat) : Int)).f0.f1)) u66), (cond d.b16 (.pointer (some ⟨gC, 0, none⟩)) u67), (cond d.b17 (.pointer (some ⟨gC, 1, none⟩)) u68), (cond d.b18 (.int .i64 ((rd_T101 l ((j1 : Nat) : Int)).f0.f1)) u69), (cond d.b19 (.pointer (some ⟨gB, 0, none⟩)) u70), (cond d.b20 (.pointer (some ⟨gB, 1, none⟩)) u71), (cond d.b21 (.int .i64 ((rd_T101 l ((j2 : Nat) : Int)).f0.f1)) u72), (cond d.b22 (.int .i64 ((atV ((1 + m : Nat) : Int) (rd_T101 l ((i : Nat) : Int)).f0.f1 (rd_T101 l ((j1 : Nat) : Int)).f0.f1 (rd_T101 l ((j2 : Nat) : Int)).f0.f1))) u73), (cond d.b23 (.agg #[.int .i64 ((atV ((1 + m : Nat) : Int) (rd_T101 l ((i : Nat) : Int)).f0.f0 (rd_T101 l ((j1 : Nat) : Int)).f0.f0 (rd_T101 l ((j2 : Nat) : Int)).f0.f0)), .int .i64 ((atV ((1 + m : Nat) : Int) (rd_T101 l ((i : Nat) : Int)).f0.f1 (rd_T101 l ((j1 : Nat) : Int)).f0.f1 (rd_T101 l ((j2 : Nat) : Int)).f0.f1))]) u74), (cond d.b24 (.slice (some ⟨d.gH, 0, none⟩) 1 1) u75), (cond d.b25 d.V1 u76), u77, u78, undef, undef, undef, undef, undef], []⟩ ∧ (d.b25 = true → d.b24 = true) ∧ (d.b26 = true → d.b0 = true) ∧ (d.b26 = true → d.b25 = true) ∧ (Blks [(gA, .cells #[.int .i64 (rd_T101 l ((i : Nat) : Int)).f0.f0, .int .i64 (rd_T101 l ((i : Nat) : Int)).f0.f1, .bool (rd_T101 l ((i : Nat) : Int)).f1] 101 (0, 0)), (gC, .cells #[.int .i64 (rd_T101 l ((j1 : Nat) : Int)).f0.f0, .int .i64 (rd_T101 l ((j1 : Nat) : Int)).f0.f1, .bool (rd_T101 l ((j1 : Nat) : Int)).f1] 101 (0, 0)), (gB, .cells #[.int .i64 (rd_T101 l ((j2 : Nat) : Int)).f0.f0, .int .i64 (rd_T101 l ((j2 : Nat) : Int)).f0.f1, .bool (rd_T101 l ((j2 : Nat) : Int)).f1] 101 (0, 0))] W') ∧ (Kd.R k52 52 W' w.heap.size (Own1 (cond d.b25 d.V1 (.slice Ao2 o2.length co2))) (cond d.b25 d.V1 (.slice Ao2 o2.length co2)) (cond d.b25 (o2 ++ [⟨(atV ((1 + m : Nat) : Int) (rd_T101 l ((i : Nat) : Int)).f0.f0 (rd_T101 l ((j1 : Nat) : Int)).f0.f0 (rd_T101 l ((j2 : Nat) : Int)).f0.f0), (atV ((1 + m : Nat) : Int) (rd_T101 l ((i : Nat) : Int)).f0.f1 (rd_T101 l ((j1 : Nat) : Int)).f0.f1 (rd_T101 l ((j2 : Nat) : Int)).f0.f1)⟩]) o2)) ∧ (d.b24 = true → d.b25 = false → W'.heap[d.gH]? = some (.cells #[.int .i64 ((atV ((1 + m : Nat) : Int) (rd_T101 l ((i : Nat) : Int)).f0.f0 (rd_T101 l ((j1 : Nat) : Int)).f0.f0 (rd_T101 l ((j2 : Nat) : Int)).f0.f0)), .int .i64 ((atV ((1 + m : Nat) : Int) (rd_T101 l ((i : Nat) : Int)).f0.f1 (rd_T101 l ((j1 : Nat) : Int)).f0.f1 (rd_T101 l ((j2 : Nat) : Int)).f0.f1))] 52 (0, 0))) ∧ (Below w.heap.size w W')) ?_ ?_ ?_ ?_
              · rintro lst a W' ⟨d, rfl, _⟩
                rfl
              · exact ⟨⟨false, false, false, false, false, false, false, false, false, false, false, false, false, false, false, false, false, false, false, false, false, false, false, false, false, false, false, 0, undef⟩, rfl, rfl, (fun h => Bool.noConfusion h), (fun h => Bool.noConfusion h), (fun h => Bool.noConfusion h), HB.drew, (R_chg HO ((Chg.refl (fun _ => False) _).drew) (fun _ _ => id)), (fun h => Bool.noConfusion h), (below_drew HW)⟩
              · rintro lst a W' i o ⟨⟨b0, b1, b2, b3, b4, b5, b6, b7, b8, b9, b10, b11, b12, b13, b14, b15, b16, b17, b18, b19, b20, b21, b22, b23, b24, b25, b26, gH, V1⟩, rfl, rfl, k0, k1, k2, hHB, hHO, hHX, hHW⟩ ho hf hd K hK
                dsimp only at k0 k1 k2 hHB hHO hHX hHW
                have hi : i < 27 := (Array.getElem?_eq_some_iff.1 ho).1
                have ho2 := ho
                rcases (show i = 0 ∨ i = 1 ∨ i = 2 ∨ i = 3 ∨ i = 4 ∨ i = 5 ∨ i = 6 ∨ i = 7 ∨ i = 8 ∨ i = 9 ∨ i = 10 ∨ i = 11 ∨ i = 12 ∨ i = 13 ∨ i = 14 ∨ i = 15 ∨ i = 16 ∨ i = 17 ∨ i = 18 ∨ i = 19 ∨ i = 20 ∨ i = 21 ∨ i = 22 ∨ i = 23 ∨ i = 24 ∨ i = 25 ∨ i = 26 by omega) with rfl | rfl | rfl | rfl | rfl | rfl | rfl | rfl | rfl | rfl | rfl | rfl | rfl | rfl | rfl | rfl | rfl | rfl | rfl | rfl | rfl | rfl | rfl | rfl | rfl | rfl | rfl
                · simp only [List.getElem?_toArray, List.getElem?_cons_succ, List.getElem?_cons_zero, Option.some.injEq] at ho
                  subst ho
                  replace hf : b0 = false := hf
                  have n26 : b26 = false := Bool.eq_false_iff.mpr (fun h => absurd (k1 h) (by rw [hf]; decide))
                  subst n26
                  subst hf
                  refine Go.Proofs.YtbmklpcheopgoaaReg.op_val ho2 rfl (v := .slice Ao2 o2.length co2) (w1 := W') ?_ (hK _ _ ⟨⟨true, b1, b2, b3, b4, b5, b6, b7, b8, b9, b10, b11, b12, b13, b14, b15, b16, b17, b18, b19, b20, b21, b22, b23, b24, b25, false, gH, V1⟩, rfl, rfl, (k0), (fun _ => rfl), (fun h => Bool.noConfusion h), hHB, hHO, hHX, hHW⟩)
                  simp [go_sem, hu, hu2]
                · simp only [List.getElem?_toArray, List.getElem?_cons_succ, List.getElem?_cons_zero, Option.some.injEq] at ho
                  subst ho
                  replace hf : b1 = false := hf
                  subst hf
                  refine Go.Proofs.YtbmklpcheopgoaaReg.op_val ho2 rfl (v := .int .i64 (((1 + m : Nat) : Int))) (w1 := W') ?_ (hK _ _ ⟨⟨b0, true, b2, b3, b4, b5, b6, b7, b8, b9, b10, b11, b12, b13, b14, b15, b16, b17, b18, b19, b20, b21, b22, b23, b24, b25, b26, gH, V1⟩, rfl, rfl, (k0), (k1), (k2), hHB, hHO, hHX, hHW⟩)
                  simp [go_sem, hu, hu2]
                · simp only [List.getElem?_toArray, List.getElem?_cons_succ, List.getElem?_cons_zero, Option.some.injEq] at ho
                  subst ho
                  replace hf : b2 = false := hf
                  subst hf
                  refine Go.Proofs.YtbmklpcheopgoaaReg.op_val ho2 rfl (v := .pointer (some ⟨gA, 0, none⟩)) (w1 := W') ?_ (hK _ _ ⟨⟨b0, b1, true, b3, b4, b5, b6, b7, b8, b9, b10, b11, b12, b13, b14, b15, b16, b17, b18, b19, b20, b21, b22, b23, b24, b25, b26, gH, V1⟩, rfl, rfl, (k0), (k1), (k2), hHB, hHO, hHX, hHW⟩)
                  simp [go_sem, hu, hu2]
                · simp only [List.getElem?_toArray, List.getElem?_cons_succ, List.getElem?_cons_zero, Option.some.injEq] at ho
                  subst ho
                  replace hf : b3 = false := hf
                  have d2 : b2 = true := hd ⟨2, .data⟩ (by simp) rfl
                  subst d2
                  subst hf
                  refine Go.Proofs.YtbmklpcheopgoaaReg.op_val ho2 rfl (v := .pointer (some ⟨gA, 0, none⟩)) (w1 := W') ?_ (hK _ _ ⟨⟨b0, b1, true, true, b4, b5, b6, b7, b8, b9, b10, b11, b12, b13, b14, b15, b16, b17, b18, b19, b20, b21, b22, b23, b24, b25, b26, gH, V1⟩, rfl, rfl, (k0), (k1), (k2), hHB, hHO, hHX, hHW⟩)
                  simp [go_sem, hu, hu2]
                · simp only [List.getElem?_toArray, List.getElem?_cons_succ, List.getElem?_cons_zero, Option.some.injEq] at ho
                  subst ho
                  replace hf : b4 = false := hf
                  have d3 : b3 = true := hd ⟨3, .data⟩ (by simp) rfl
                  subst d3
                  subst hf
                  refine Go.Proofs.YtbmklpcheopgoaaReg.op_val ho2 rfl (v := .int .i64 ((rd_T101 l ((i : Nat) : Int)).f0.f0)) (w1 := W') ?_ (hK _ _ ⟨⟨b0, b1, b2, true, true, b5, b6, b7, b8, b9, b10, b11, b12, b13, b14, b15, b16, b17, b18, b19, b20, b21, b22, b23, b24, b25, b26, gH, V1⟩, rfl, rfl, (k0), (k1), (k2), hHB, hHO, hHX, hHW⟩)
                  simp [go_sem, hu, hu2, (Blks.cell hHB 0 rfl 0)]
                · simp only [List.getElem?_toArray, List.getElem?_cons_succ, List.getElem?_cons_zero, Option.some.injEq] at ho
                  subst ho
                  replace hf : b5 = false := hf
                  subst hf
                  refine Go.Proofs.YtbmklpcheopgoaaReg.op_val ho2 rfl (v := .pointer (some ⟨gC, 0, none⟩)) (w1 := W') ?_ (hK _ _ ⟨⟨b0, b1, b2, b3, b4, true, b6, b7, b8, b9, b10, b11, b12, b13, b14, b15, b16, b17, b18, b19, b20, b21, b22, b23, b24, b25, b26, gH, V1⟩, rfl, rfl, (k0), (k1), (k2), hHB, hHO, hHX, hHW⟩)
                  simp [go_sem, hu, hu2]
                · simp only [List.getElem?_toArray, List.getElem?_cons_succ, List.getElem?_cons_zero, Option.some.injEq] at ho
                  subst ho
                  replace hf : b6 = false := hf
                  have d5 : b5 = true := hd ⟨5, .data⟩ (by simp) rfl
                  subst d5
                  subst hf
                  refine Go.Proofs.YtbmklpcheopgoaaReg.op_val ho2 rfl (v := .pointer (some ⟨gC, 0, none⟩)) (w1 := W') ?_ (hK _ _ ⟨⟨b0, b1, b2, b3, b4, true, true, b7, b8, b9, b10, b11, b12, b13, b14, b15, b16, b17, b18, b19, b20, b21, b22, b23, b24, b25, b26, gH, V1⟩, rfl, rfl, (k0), (k1), (k2), hHB, hHO, hHX, hHW⟩)
                  simp [go_sem, hu, hu2]
                · simp only [List.getElem?_toArray, List.getElem?_cons_succ, List.getElem?_cons_zero, Option.some.injEq] at ho
                  subst ho
                  replace hf : b7 = false := hf
                  have d6 : b6 = true := hd ⟨6, .data⟩ (by simp) rfl
                  subst d6
                  subst hf
                  refine Go.Proofs.YtbmklpcheopgoaaReg.op_val ho2 rfl (v := .int .i64 ((rd_T101 l ((j1 : Nat) : Int)).f0.f0)) (w1 := W') ?_ (hK _ _ ⟨⟨b0, b1, b2, b3, b4, b5, true, true, b8, b9, b10, b11, b12, b13, b14, b15, b16, b17, b18, b19, b20, b21, b22, b23, b24, b25, b26, gH, V1⟩, rfl, rfl, (k0), (k1), (k2), hHB, hHO, hHX, hHW⟩)
                  simp [go_sem, hu, hu2, (Blks.cell hHB 1 rfl 0)]
                · simp only [List.getElem?_toArray, List.getElem?_cons_succ, List.getElem?_cons_zero, Option.some.injEq] at ho
                  subst ho
                  replace hf : b8 = false := hf
                  subst hf
                  refine Go.Proofs.YtbmklpcheopgoaaReg.op_val ho2 rfl (v := .pointer (some ⟨gB, 0, none⟩)) (w1 := W') ?_ (hK _ _ ⟨⟨b0, b1, b2, b3, b4, b5, b6, b7, true, b9, b10, b11, b12, b13, b14, b15, b16, b17, b18, b19, b20, b21, b22, b23, b24, b25, b26, gH, V1⟩, rfl, rfl, (k0), (k1), (k2), hHB, hHO, hHX, hHW⟩)
                  simp [go_sem, hu, hu2]
                · simp only [List.getElem?_toArray, List.getElem?_cons_succ, List.getElem?_cons_zero, Option.some.injEq] at ho
                  subst ho
                  replace hf : b9 = false := hf
                  have d8 : b8 = true := hd ⟨8, .data⟩ (by simp) rfl
                  subst d8
                  subst hf
                  refine Go.Proofs.YtbmklpcheopgoaaReg.op_val ho2 rfl (v := .pointer (some ⟨gB, 0, none⟩)) (w1 := W') ?_ (hK _ _ ⟨⟨b0, b1, b2, b3, b4, b5, b6, b7, true, true, b10, b11, b12, b13, b14, b15, b16, b17, b18, b19, b20, b21, b22, b23, b24, b25, b26, gH, V1⟩, rfl, rfl, (k0), (k1), (k2), hHB, hHO, hHX, hHW⟩)
                  simp [go_sem, hu, hu2]
                · simp only [List.getElem?_toArray, List.getElem?_cons_succ, List.getElem?_cons_zero, Option.some.injEq] at ho
                  subst ho
                  replace hf : b10 = false := hf
                  have d9 : b9 = true := hd ⟨9, .data⟩ (by simp) rfl
                  subst d9
                  subst hf
                  refine Go.Proofs.YtbmklpcheopgoaaReg.op_val ho2 rfl (v := .int .i64 ((rd_T101 l ((j2 : Nat) : Int)).f0.f0)) (w1 := W') ?_ (hK _ _ ⟨⟨b0, b1, b2, b3, b4, b5, b6, b7, b8, true, true, b11, b12, b13, b14, b15, b16, b17, b18, b19, b20, b21, b22, b23, b24, b25, b26, gH, V1⟩, rfl, rfl, (k0), (k1), (k2), hHB, hHO, hHX, hHW⟩)
                  simp [go_sem, hu, hu2, (Blks.cell hHB 2 rfl 0)]
                · simp only [List.getElem?_toArray, List.getElem?_cons_succ, List.getElem?_cons_zero, Option.some.injEq] at ho
                  subst ho
                  replace hf : b11 = false := hf
                  have d1 : b1 = true := hd ⟨1, .data⟩ (by simp) rfl
                  have d4 : b4 = true := hd ⟨4, .data⟩ (by simp) rfl
                  have d7 : b7 = true := hd ⟨7, .data⟩ (by simp) rfl
                  have d10 : b10 = true := hd ⟨10, .data⟩ (by simp) rfl
                  subst d1
                  subst d4
                  subst d7
                  subst d10
                  subst hf
                  refine Go.Proofs.YtbmklpcheopgoaaReg.op_wp ho2 rfl (op_call Try.func56 (by kernel_rfl) rfl #[.int .i64 (((1 + m : Nat) : Int)), .int .i64 ((rd_T101 l ((i : Nat) : Int)).f0.f0), .int .i64 ((rd_T101 l ((j1 : Nat) : Int)).f0.f0), .int .i64 ((rd_T101 l ((j2 : Nat) : Int)).f0.f0)] rfl (by simp only [List.map_toArray, List.map_cons, List.map_nil]; rfl) ?_)
                  refine (outline_at.calls _ _ _ _ _ W' (atV_f _ _ _ _)).mono ?_
                  rintro e1 W2 ⟨rfl, ⟨nd, rfl⟩⟩
                  exact ⟨_, rfl, (hK _ _ ⟨⟨b0, true, b2, b3, true, b5, b6, true, b8, b9, true, true, b12, b13, b14, b15, b16, b17, b18, b19, b20, b21, b22, b23, b24, b25, b26, gH, V1⟩, rfl, rfl, (k0), (k1), (k2), (hHB.drewN nd), (R_chg hHO ((Chg.refl (fun _ => False) _).drewN nd) (fun _ _ => id)), (fun h1 h2 => blk_drewN (hHX h1 h2) nd), (pw_below_drewN hHW nd)⟩)⟩
                · simp only [List.getElem?_toArray, List.getElem?_cons_succ, List.getElem?_cons_zero, Option.some.injEq] at ho
                  subst ho
                  replace hf : b12 = false := hf
                  subst hf
                  refine Go.Proofs.YtbmklpcheopgoaaReg.op_val ho2 rfl (v := .int .i64 (((1 + m : Nat) : Int))) (w1 := W') ?_ (hK _ _ ⟨⟨b0, b1, b2, b3, b4, b5, b6, b7, b8, b9, b10, b11, true, b13, b14, b15, b16, b17, b18, b19, b20, b21, b22, b23, b24, b25, b26, gH, V1⟩, rfl, rfl, (k0), (k1), (k2), hHB, hHO, hHX, hHW⟩)
                  simp [go_sem, hu, hu2]
                · simp only [List.getElem?_toArray, List.getElem?_cons_succ, List.getElem?_cons_zero, Option.some.injEq] at ho
                  subst ho
                  replace hf : b13 = false := hf
                  subst hf
                  refine Go.Proofs.YtbmklpcheopgoaaReg.op_val ho2 rfl (v := .pointer (some ⟨gA, 0, none⟩)) (w1 := W') ?_ (hK _ _ ⟨⟨b0, b1, b2, b3, b4, b5, b6, b7, b8, b9, b10, b11, b12, true, b14, b15, b16, b17, b18, b19, b20, b21, b22, b23, b24, b25, b26, gH, V1⟩, rfl, rfl, (k0), (k1), (k2), hHB, hHO, hHX, hHW⟩)
                  simp [go_sem, hu, hu2]
                · simp only [List.getElem?_toArray, List.getElem?_cons_succ, List.getElem?_cons_zero, Option.some.injEq] at ho
                  subst ho
                  replace hf : b14 = false := hf
                  have d13 : b13 = true := hd ⟨13, .data⟩ (by simp) rfl
                  subst d13
                  subst hf
                  refine Go.Proofs.YtbmklpcheopgoaaReg.op_val ho2 rfl (v := .pointer (some ⟨gA, 1, none⟩)) (w1 := W') ?_ (hK _ _ ⟨⟨b0, b1, b2, b3, b4, b5, b6, b7, b8, b9, b10, b11, b12, true, true, b15, b16, b17, b18, b19, b20, b21, b22, b23, b24, b25, b26, gH, V1⟩, rfl, rfl, (k0), (k1), (k2), hHB, hHO, hHX, hHW⟩)
                  simp [go_sem, hu, hu2]
                · simp only [List.getElem?_toArray, List.getElem?_cons_succ, List.getElem?_cons_zero, Option.some.injEq] at ho
                  subst ho
                  replace hf : b15 = false := hf
                  have d14 : b14 = true := hd ⟨14, .data⟩ (by simp) rfl
                  subst d14
                  subst hf
                  refine Go.Proofs.YtbmklpcheopgoaaReg.op_val ho2 rfl (v := .int .i64 ((rd_T101 l ((i : Nat) : Int)).f0.f1)) (w1 := W') ?_ (hK _ _ ⟨⟨b0, b1, b2, b3, b4, b5, b6, b7, b8, b9, b10, b11, b12, b13, true, true, b16, b17, b18, b19, b20, b21, b22, b23, b24, b25, b26, gH, V1⟩, rfl, rfl, (k0), (k1), (k2), hHB, hHO, hHX, hHW⟩)
                  simp [go_sem, hu, hu2, (Blks.cell hHB 0 rfl 1)]
                · simp only [List.getElem?_toArray, List.getElem?_cons_succ, List.getElem?_cons_zero, Option.some.injEq] at ho
                  subst ho
                  replace hf : b16 = false := hf
                  subst hf
                  refine Go.Proofs.YtbmklpcheopgoaaReg.op_val ho2 rfl (v := .pointer (some ⟨gC, 0, none⟩)) (w1 := W') ?_ (hK _ _ ⟨⟨b0, b1, b2, b3, b4, b5, b6, b7, b8, b9, b10, b11, b12, b13, b14, b15, true, b17, b18, b19, b20, b21, b22, b23, b24, b25, b26, gH, V1⟩, rfl, rfl, (k0), (k1), (k2), hHB, hHO, hHX, hHW⟩)
                  simp [go_sem, hu, hu2]
                · simp only [List.getElem?_toArray, List.getElem?_cons_succ, List.getElem?_cons_zero, Option.some.injEq] at ho
                  subst ho
                  replace hf : b17 = false := hf
                  have d16 : b16 = true := hd ⟨16, .data⟩ (by simp) rfl
                  subst d16
                  subst hf
                  refine Go.Proofs.YtbmklpcheopgoaaReg.op_val ho2 rfl (v := .pointer (some ⟨gC, 1, none⟩)) (w1 := W') ?_ (hK _ _ ⟨⟨b0, b1, b2, b3, b4, b5, b6, b7, b8, b9, b10, b11, b12, b13, b14, b15, true, true, b18, b19, b20, b21, b22, b23, b24, b25, b26, gH, V1⟩, rfl, rfl, (k0), (k1), (k2), hHB, hHO, hHX, hHW⟩)
                  simp [go_sem, hu, hu2]
                · simp only [List.getElem?_toArray, List.getElem?_cons_succ, List.getElem?_cons_zero, Option.some.injEq] at ho
                  subst ho
                  replace hf : b18 = false := hf
                  have d17 : b17 = true := hd ⟨17, .data⟩ (by simp) rfl
                  subst d17
                  subst hf
                  refine Go.Proofs.YtbmklpcheopgoaaReg.op_val ho2 rfl (v := .int .i64 ((rd_T101 l ((j1 : Nat) : Int)).f0.f1)) (w1 := W') ?_ (hK _ _ ⟨⟨b0, b1, b2, b3, b4, b5, b6, b7, b8, b9, b10, b11, b12, b13, b14, b15, b16, true, true, b19, b20, b21, b22, b23, b24, b25, b26, gH, V1⟩, rfl, rfl, (k0), (k1), (k2), hHB, hHO, hHX, hHW⟩)
                  simp [go_sem, hu, hu2, (Blks.cell hHB 1 rfl 1)]
                · simp only [List.getElem?_toArray, List.getElem?_cons_succ, List.getElem?_cons_zero, Option.some.injEq] at ho
                  subst ho
                  replace hf : b19 = false := hf
                  subst hf
                  refine Go.Proofs.YtbmklpcheopgoaaReg.op_val ho2 rfl (v := .pointer (some ⟨gB, 0, none⟩)) (w1 := W') ?_ (hK _ _ ⟨⟨b0, b1, b2, b3, b4, b5, b6, b7, b8, b9, b10, b11, b12, b13, b14, b15, b16, b17, b18, true, b20, b21, b22, b23, b24, b25, b26, gH, V1⟩, rfl, rfl, (k0), (k1), (k2), hHB, hHO, hHX, hHW⟩)
                  simp [go_sem, hu, hu2]
                · simp only [List.getElem?_toArray, List.getElem?_cons_succ, List.getElem?_cons_zero, Option.some.injEq] at ho
                  subst ho
                  replace hf : b20 = false := hf
                  have d19 : b19 = true := hd ⟨19, .data⟩ (by simp) rfl
                  subst d19
                  subst hf
                  refine Go.Proofs.YtbmklpcheopgoaaReg.op_val ho2 rfl (v := .pointer (some ⟨gB, 1, none⟩)) (w1 := W') ?_ (hK _ _ ⟨⟨b0, b1, b2, b3, b4, b5, b6, b7, b8, b9, b10, b11, b12, b13, b14, b15, b16, b17, b18, true, true, b21, b22, b23, b24, b25, b26, gH, V1⟩, rfl, rfl, (k0), (k1), (k2), hHB, hHO, hHX, hHW⟩)
                  simp [go_sem, hu, hu2]
                · simp only [List.getElem?_toArray, List.getElem?_cons_succ, List.getElem?_cons_zero, Option.some.injEq] at ho
                  subst ho
                  replace hf : b21 = false := hf
                  have d20 : b20 = true := hd ⟨20, .data⟩ (by simp) rfl
                  subst d20
                  subst hf
                  refine Go.Proofs.YtbmklpcheopgoaaReg.op_val ho2 rfl (v := .int .i64 ((rd_T101 l ((j2 : Nat) : Int)).f0.f1)) (w1 := W') ?_ (hK _ _ ⟨⟨b0, b1, b2, b3, b4, b5, b6, b7, b8, b9, b10, b11, b12, b13, b14, b15, b16, b17, b18, b19, true, true, b22, b23, b24, b25, b26, gH, V1⟩, rfl, rfl, (k0), (k1), (k2), hHB, hHO, hHX, hHW⟩)
                  simp [go_sem, hu, hu2, (Blks.cell hHB 2 rfl 1)]
                · simp only [List.getElem?_toArray, List.getElem?_cons_succ, List.getElem?_cons_zero, Option.some.injEq] at ho
                  subst ho
                  replace hf : b22 = false := hf
                  have d11 : b11 = true := hd ⟨11, .chain⟩ (by simp) rfl
                  have d12 : b12 = true := hd ⟨12, .data⟩ (by simp) rfl
                  have d15 : b15 = true := hd ⟨15, .data⟩ (by simp) rfl
                  have d18 : b18 = true := hd ⟨18, .data⟩ (by simp) rfl
                  have d21 : b21 = true := hd ⟨21, .data⟩ (by simp) rfl
                  subst d11
                  subst d12
                  subst d15
                  subst d18
                  subst d21
                  subst hf
                  refine Go.Proofs.YtbmklpcheopgoaaReg.op_wp ho2 rfl (op_call Try.func56 (by kernel_rfl) rfl #[.int .i64 (((1 + m : Nat) : Int)), .int .i64 ((rd_T101 l ((i : Nat) : Int)).f0.f1), .int .i64 ((rd_T101 l ((j1 : Nat) : Int)).f0.f1), .int .i64 ((rd_T101 l ((j2 : Nat) : Int)).f0.f1)] rfl (by simp only [List.map_toArray, List.map_cons, List.map_nil]; rfl) ?_)
                  refine (outline_at.calls _ _ _ _ _ W' (atV_f _ _ _ _)).mono ?_
                  rintro e1 W2 ⟨rfl, ⟨nd, rfl⟩⟩
                  exact ⟨_, rfl, (hK _ _ ⟨⟨b0, b1, b2, b3, b4, b5, b6, b7, b8, b9, b10, true, true, b13, b14, true, b16, b17, true, b19, b20, true, true, b23, b24, b25, b26, gH, V1⟩, rfl, rfl, (k0), (k1), (k2), (hHB.drewN nd), (R_chg hHO ((Chg.refl (fun _ => False) _).drewN nd) (fun _ _ => id)), (fun h1 h2 => blk_drewN (hHX h1 h2) nd), (pw_below_drewN hHW nd)⟩)⟩
                · simp only [List.getElem?_toArray, List.getElem?_cons_succ, List.getElem?_cons_zero, Option.some.injEq] at ho
                  subst ho
                  replace hf : b23 = false := hf
                  have d11 : b11 = true := hd ⟨11, .data⟩ (by simp) rfl
                  have d22 : b22 = true := hd ⟨22, .data⟩ (by simp) rfl
                  subst d11
                  subst d22
                  subst hf
                  refine Go.Proofs.YtbmklpcheopgoaaReg.op_val ho2 rfl (v := .agg #[.int .i64 ((atV ((1 + m : Nat) : Int) (rd_T101 l ((i : Nat) : Int)).f0.f0 (rd_T101 l ((j1 : Nat) : Int)).f0.f0 (rd_T101 l ((j2 : Nat) : Int)).f0.f0)), .int .i64 ((atV ((1 + m : Nat) : Int) (rd_T101 l ((i : Nat) : Int)).f0.f1 (rd_T101 l ((j1 : Nat) : Int)).f0.f1 (rd_T101 l ((j2 : Nat) : Int)).f0.f1))]) (w1 := W') ?_ (hK _ _ ⟨⟨b0, b1, b2, b3, b4, b5, b6, b7, b8, b9, b10, true, b12, b13, b14, b15, b16, b17, b18, b19, b20, b21, true, true, b24, b25, b26, gH, V1⟩, rfl, rfl, (k0), (k1), (k2), hHB, hHO, hHX, hHW⟩)
                  simp [go_sem, hu, hu2]
                · simp only [List.getElem?_toArray, List.getElem?_cons_succ, List.getElem?_cons_zero, Option.some.injEq] at ho
                  subst ho
                  replace hf : b24 = false := hf
                  have d23 : b23 = true := hd ⟨23, .data⟩ (by simp) rfl
                  subst d23
                  have n25 : b25 = false := Bool.eq_false_iff.mpr (fun h => absurd (k0 h) (by rw [hf]; decide))
                  have n26 : b26 = false := Bool.eq_false_iff.mpr (fun h => absurd (k2 h) (by rw [n25]; decide))
                  subst n25
                  subst n26
                  subst hf
                  refine Go.Proofs.YtbmklpcheopgoaaReg.op_val ho2 rfl (v := .slice (some ⟨(W'.heap.size), 0, none⟩) 1 1) (w1 := W'.alloc (.cells #[.int .i64 ((atV ((1 + m : Nat) : Int) (rd_T101 l ((i : Nat) : Int)).f0.f0 (rd_T101 l ((j1 : Nat) : Int)).f0.f0 (rd_T101 l ((j2 : Nat) : Int)).f0.f0)), .int .i64 ((atV ((1 + m : Nat) : Int) (rd_T101 l ((i : Nat) : Int)).f0.f1 (rd_T101 l ((j1 : Nat) : Int)).f0.f1 (rd_T101 l ((j2 : Nat) : Int)).f0.f1))] 52)) ?_ (hK _ _ ⟨⟨b0, b1, b2, b3, b4, b5, b6, b7, b8, b9, b10, b11, b12, b13, b14, b15, b16, b17, b18, b19, b20, b21, b22, true, true, false, false, W'.heap.size, V1⟩, rfl, rfl, (fun _ => rfl), (fun h => Bool.noConfusion h), (fun h => Bool.noConfusion h), (hHB.alloc _).tail, (R_chg hHO ((Chg.refl (fun _ => False) _).alloc _) (fun _ _ => id)), (fun _ _ => blk_new W' (.cells #[.int .i64 ((atV ((1 + m : Nat) : Int) (rd_T101 l ((i : Nat) : Int)).f0.f0 (rd_T101 l ((j1 : Nat) : Int)).f0.f0 (rd_T101 l ((j2 : Nat) : Int)).f0.f0)), .int .i64 ((atV ((1 + m : Nat) : Int) (rd_T101 l ((i : Nat) : Int)).f0.f1 (rd_T101 l ((j1 : Nat) : Int)).f0.f1 (rd_T101 l ((j2 : Nat) : Int)).f0.f1))] 52)), (hHW.alloc hHW.size _)⟩)
                  simp [go_sem, hu]
                · simp only [List.getElem?_toArray, List.getElem?_cons_succ, List.getElem?_cons_zero, Option.some.injEq] at ho
                  subst ho
                  replace hf : b25 = false := hf
                  have d0 : b0 = true := hd ⟨0, .data⟩ (by simp) rfl
                  have d22 : b22 = true := hd ⟨22, .chain⟩ (by simp) rfl
                  have d24 : b24 = true := hd ⟨24, .data⟩ (by simp) rfl
                  subst d0
                  subst d22
                  subst d24
                  have n26 : b26 = false := Bool.eq_false_iff.mpr (fun h => absurd (k2 h) (by rw [hf]; decide))
                  subst n26
                  subst hf
                  obtain ⟨vn, wn, hrn, hRn, hgn, hatn⟩ := run_append1 (P := Try.prog) (ty := 42) k52 w.heap.size Try.underlying42 info_pt2 rfl (by decide) (by decide) (.slice Ao2 o2.length co2) o2 ⟨(atV ((1 + m : Nat) : Int) (rd_T101 l ((i : Nat) : Int)).f0.f0 (rd_T101 l ((j1 : Nat) : Int)).f0.f0 (rd_T101 l ((j2 : Nat) : Int)).f0.f0), (atV ((1 + m : Nat) : Int) (rd_T101 l ((i : Nat) : Int)).f0.f1 (rd_T101 l ((j1 : Nat) : Int)).f0.f1 (rd_T101 l ((j2 : Nat) : Int)).f0.f1)⟩ [.int .i64 ((atV ((1 + m : Nat) : Int) (rd_T101 l ((i : Nat) : Int)).f0.f0 (rd_T101 l ((j1 : Nat) : Int)).f0.f0 (rd_T101 l ((j2 : Nat) : Int)).f0.f0)), .int .i64 ((atV ((1 + m : Nat) : Int) (rd_T101 l ((i : Nat) : Int)).f0.f1 (rd_T101 l ((j1 : Nat) : Int)).f0.f1 (rd_T101 l ((j2 : Nat) : Int)).f0.f1))] (fun _ => True) (fun _ => False) ⟨gH, 0, none⟩ 1 (fun j u hj => by rw [add_plain, blk_cell (hHX rfl rfl) j]; simpa using hj) (k52_mkM _ _ _ _) (fun _ hk => hk.elim) (fun _ _ => trivial) (R_all hHO) hHW.size (by omega)
                  refine Go.Proofs.YtbmklpcheopgoaaReg.op_val ho2 rfl (v := vn) (w1 := wn) ?_ (hK _ _ ⟨⟨true, b1, b2, b3, b4, b5, b6, b7, b8, b9, b10, b11, b12, b13, b14, b15, b16, b17, b18, b19, b20, b21, true, b23, true, true, false, gH, vn⟩, rfl, rfl, (fun _ => rfl), (fun _ => rfl), (fun _ => rfl), (hHB.chg (Chg.of_grownBy hgn) (fun b hb e => hRow25 hHB hHO b hb e)), (R_own1 flat_pt2 hRn), (fun _ h => Bool.noConfusion h), (pw_below_grown hHW _ hHW.size hgn (fun k hk => Kd.R_base hHO k hk))⟩)
                  exact Go.Proofs.YtbmklpcheopgoaaIt.run_app rfl rfl rfl hrn
                · simp only [List.getElem?_toArray, List.getElem?_cons_succ, List.getElem?_cons_zero, Option.some.injEq] at ho
                  subst ho
                  replace hf : b26 = false := hf
                  have d0 : b0 = true := hd ⟨0, .phase⟩ (by simp) rfl
                  have d1 : b1 = true := hd ⟨1, .phase⟩ (by simp) rfl
                  have d2 : b2 = true := hd ⟨2, .phase⟩ (by simp) rfl
                  have d3 : b3 = true := hd ⟨3, .phase⟩ (by simp) rfl
                  have d4 : b4 = true := hd ⟨4, .phase⟩ (by simp) rfl
                  have d5 : b5 = true := hd ⟨5, .phase⟩ (by simp) rfl
                  have d6 : b6 = true := hd ⟨6, .phase⟩ (by simp) rfl
                  have d7 : b7 = true := hd ⟨7, .phase⟩ (by simp) rfl
                  have d8 : b8 = true := hd ⟨8, .phase⟩ (by simp) rfl
                  have d9 : b9 = true := hd ⟨9, .phase⟩ (by simp) rfl
                  have d10 : b10 = true := hd ⟨10, .phase⟩ (by simp) rfl
                  have d11 : b11 = true := hd ⟨11, .phase⟩ (by simp) rfl
                  have d12 : b12 = true := hd ⟨12, .phase⟩ (by simp) rfl
                  have d13 : b13 = true := hd ⟨13, .phase⟩ (by simp) rfl
                  have d14 : b14 = true := hd ⟨14, .phase⟩ (by simp) rfl
                  have d15 : b15 = true := hd ⟨15, .phase⟩ (by simp) rfl
                  have d16 : b16 = true := hd ⟨16, .phase⟩ (by simp) rfl
                  have d17 : b17 = true := hd ⟨17, .phase⟩ (by simp) rfl
                  have d18 : b18 = true := hd ⟨18, .phase⟩ (by simp) rfl
                  have d19 : b19 = true := hd ⟨19, .phase⟩ (by simp) rfl
                  have d20 : b20 = true := hd ⟨20, .phase⟩ (by simp) rfl
                  have d21 : b21 = true := hd ⟨21, .phase⟩ (by simp) rfl
                  have d22 : b22 = true := hd ⟨22, .phase⟩ (by simp) rfl
                  have d23 : b23 = true := hd ⟨23, .phase⟩ (by simp) rfl
                  have d24 : b24 = true := hd ⟨24, .phase⟩ (by simp) rfl
                  have d25 : b25 = true := hd ⟨25, .data⟩ (by simp) rfl
                  subst d0
                  subst d1
                  subst d2
                  subst d3
                  subst d4
                  subst d5
                  subst d6
                  subst d7
                  subst d8
                  subst d9
                  subst d10
                  subst d11
                  subst d12
                  subst d13
                  subst d14
                  subst d15
                  subst d16
                  subst d17
                  subst d18
                  subst d19
                  subst d20
                  subst d21
                  subst d22
                  subst d23
                  subst d24
                  subst d25
                  subst hf
                  refine Go.Proofs.YtbmklpcheopgoaaReg.op_val ho2 rfl (v := V1) (w1 := W') ?_ (hK _ _ ⟨⟨true, true, true, true, true, true, true, true, true, true, true, true, true, true, true, true, true, true, true, true, true, true, true, true, true, true, true, gH, V1⟩, rfl, rfl, (fun _ => rfl), (fun _ => rfl), (fun _ => rfl), hHB, hHO, hHX, hHW⟩)
                  simp [go_sem, hu, hu2]
              · rintro lst a W' ⟨⟨b0, b1, b2, b3, b4, b5, b6, b7, b8, b9, b10, b11, b12, b13, b14, b15, b16, b17, b18, b19, b20, b21, b22, b23, b24, b25, b26, gH, V1⟩, rfl, rfl, k0, k1, k2, hHB, hHO, hHX, hHW⟩ hall
                dsimp only at k0 k1 k2 hHB hHO hHX hHW
                have a0 : b0 = true := hall 0 (by decide)
                have a1 : b1 = true := hall 1 (by decide)
                have a2 : b2 = true := hall 2 (by decide)
                have a3 : b3 = true := hall 3 (by decide)
                have a4 : b4 = true := hall 4 (by decide)
                have a5 : b5 = true := hall 5 (by decide)
                have a6 : b6 = true := hall 6 (by decide)
                have a7 : b7 = true := hall 7 (by decide)
                have a8 : b8 = true := hall 8 (by decide)
                have a9 : b9 = true := hall 9 (by decide)
                have a10 : b10 = true := hall 10 (by decide)
                have a11 : b11 = true := hall 11 (by decide)
                have a12 : b12 = true := hall 12 (by decide)
                have a13 : b13 = true := hall 13 (by decide)
                have a14 : b14 = true := hall 14 (by decide)
                have a15 : b15 = true := hall 15 (by decide)
                have a16 : b16 = true := hall 16 (by decide)
                have a17 : b17 = true := hall 17 (by decide)
                have a18 : b18 = true := hall 18 (by decide)
                have a19 : b19 = true := hall 19 (by decide)
                have a20 : b20 = true := hall 20 (by decide)
                have a21 : b21 = true := hall 21 (by decide)
                have a22 : b22 = true := hall 22 (by decide)
                have a23 : b23 = true := hall 23 (by decide)
                have a24 : b24 = true := hall 24 (by decide)
                have a25 : b25 = true := hall 25 (by decide)
                have a26 : b26 = true := hall 26 (by decide)
                subst a0 a1 a2 a3 a4 a5 a6 a7 a8 a9 a10 a11 a12 a13 a14 a15 a16 a17 a18 a19 a20 a21 a22 a23 a24 a25 a26
                clear k0 k1 k2
                clear hall
                have HB : Blks [(gA, .cells #[.int .i64 (rd_T101 l ((i : Nat) : Int)).f0.f0, .int .i64 (rd_T101 l ((i : Nat) : Int)).f0.f1, .bool (rd_T101 l ((i : Nat) : Int)).f1] 101 (0, 0)), (gC, .cells #[.int .i64 (rd_T101 l ((j1 : Nat) : Int)).f0.f0, .int .i64 (rd_T101 l ((j1 : Nat) : Int)).f0.f1, .bool (rd_T101 l ((j1 : Nat) : Int)).f1] 101 (0, 0)), (gB, .cells #[.int .i64 (rd_T101 l ((j2 : Nat) : Int)).f0.f0, .int .i64 (rd_T101 l ((j2 : Nat) : Int)).f0.f1, .bool (rd_T101 l ((j2 : Nat) : Int)).f1] 101 (0, 0))] W' := hHB
                have HO : Kd.R k52 52 W' w.heap.size (Own1 V1) V1 (o2 ++ [⟨(atV ((1 + m : Nat) : Int) (rd_T101 l ((i : Nat) : Int)).f0.f0 (rd_T101 l ((j1 : Nat) : Int)).f0.f0 (rd_T101 l ((j2 : Nat) : Int)).f0.f0), (atV ((1 + m : Nat) : Int) (rd_T101 l ((i : Nat) : Int)).f0.f1 (rd_T101 l ((j1 : Nat) : Int)).f0.f1 (rd_T101 l ((j2 : Nat) : Int)).f0.f1)⟩]) := hHO
                have HW : Below w.heap.size w W' := hHW
                clear hHB hHO hHX hHW
                have HH := Lib.hid (And.intro HO (And.intro HB HW))
                clear HO HB HW
                go_wp2
                refine ⟨⟨m + 1, by omega, by congr 1 <;> omega, ⟨?_, HH.out.2.1, HH.out.2.2⟩⟩, by simp [intOf]; omega⟩
                rw [HKS.out, ← List.append_assoc, HO2.out]
                exact HH.out.1
            · obtain rfl : m = 8 := by omega
              have HH := Lib.hid (And.intro HO (And.intro HB HW))
              clear HO HB HW
              go_wp2
              refine ⟨⟨i + 2, out ++ curveK l i 8, by omega, by congr 1 <;> omega, by simp; omega, by rw [List.length_append, curveK_len]; omega, ⟨?_, HH.out.1, HH.out.2.2⟩⟩, by simp [intOf]; omega⟩
              rw [← hE.out.2, rowGo_off l i out hlt (by rw [hJ.out.1]; exact hons.out)]
    · obtain ⟨Ao, co, hv3⟩ := Kd.R_slice HO
      subst hv3
      have hcap := (Kd.R_reads' HO).2.1
      have hc2 : out.length - 1 ≤ co := by omega
      go_wp2
      go_ret
      rw [show l.length - i = 0 by omega] at HG
      have HG : out = rowAll l := HG
      subst HG
      exact ⟨_, rfl, Kd.R_mono (Kd.R_take HO (m := (rowAll l).length - 1) (by omega)) (fun _ _ => trivial), HB⟩

end Go.Proofs.Ytbmklpcheopgoaa.H
