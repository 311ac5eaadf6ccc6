/- Texts of this session, one behind the other, for the statement OutlineBoxes: what its functions compute, plain facts, and (last) its row. No condition besides those stated. -/
import Derived.Test.YtbmklpcheopgoaaMBoxes1
import Derived.Test.YtbmklpcheopgoaaMBoxes2
import Derived.WalkKit
import Derived.Lib.Hide
import Derived.WalkSpells
import Derived.StillTailTactics
import Derived.Deep.RegionHeld3
import Derived.Deep.AppendLies
set_option linter.unusedVariables false
set_option linter.unusedSimpArgs false
namespace Go.Proofs.Ytbmklpcheopgoaa.H
open Go.RowKit Go.Proofs.YtbmklpcheopgoaaW.PrintWords Go.Proofs.YtbmklpcheopgoaaW.PrintLast Go.Proofs.YtbmklpcheopgoaaW.PrintMore
attribute [local go_sem] max2_int min2_int max_two min_two max_three min_three max_four min_four
set_option linter.unusedVariables false
set_option linter.unusedSimpArgs false
open Go.Proofs.YtbmklpcheopgoaaOps Go.Proofs.YtbmklpcheopgoaaIt Go.Proofs.YtbmklpcheopgoaaBlks Go.Proofs.YtbmklpcheopgoaaFlat Go.Proofs.YtbmklpcheopgoaaCallOps
attribute [local go_sem] World.cell?_alloc_some
theorem flat_pt2 : Flat k52 := fun _ _ _ _ _ _ _ _ h => by rw [k52_openM h]; exact k52_mkM _ _ _ _
theorem info_pt2 : (Try.prog.info? 52).map (fun i => (i.zero, i.size, i.bytes)) = some (some (.agg #[.int .i64 0, .int .i64 0]), Kd.sz k52, 16) := by kernel_rfl
def atV (n a c b : Int) : Int := (outline_at.f n a c b).getD 0
theorem atV_f (n a c b : Int) : outline_at.f n a c b = some (atV n a c b) := rfl
def curveAt (l : List S101) (i : Nat) (j : Nat) : S52 :=
 let a := rd_T101 l (i : Nat); let c := rd_T101 l ((i + 1) % l.length : Nat); let b := rd_T101 l ((i + 2) % l.length : Nat)
 ⟨atV j a.f0.f0 c.f0.f0 b.f0.f0, atV j a.f0.f1 c.f0.f1 b.f0.f1⟩
def curveK (l : List S101) (i m : Nat) : List S52 := (List.range m).map fun j => curveAt l i (1 + j)
def rowGo (l : List S101) : Nat → Nat → List S52 → List S52
 | 0, _, out => out
 | f + 1, i, out => if i < l.length then (if (rd_T101 l ((i + 1) % l.length : Nat)).f1 = true then rowGo l f (i + 1) (out ++ [(rd_T101 l ((i + 1) % l.length : Nat)).f0]) else rowGo l f (i + 2) (out ++ curveK l i 8)) else out
def rowAll (l : List S101) : List S52 := rowGo l l.length 0 [(rd_T101 l (0 : Nat)).f0]
def rowL (l : List S101) : List S52 := (rowAll l).take ((rowAll l).length - 1)
theorem rowGo_more (l : List S101) : ∀ (f i : Nat) (out : List S52), l.length ≤ i + f → rowGo l (f + 1) i out = rowGo l f i out := by
 intro f
 induction f with
 | zero => intro i out h; unfold rowGo; rw [if_neg (by omega)]
 | succ f ih =>
  intro i out h
  by_cases hi : i < l.length
  ·
   rw [show rowGo l (f + 1 + 1) i out = _ from by unfold rowGo; exact if_pos hi, show rowGo l (f + 1) i out = _ from by unfold rowGo; exact if_pos hi]
   rw [ih _ _ (by omega), ih _ _ (by omega)]
  ·
   rw [show rowGo l (f + 1 + 1) i out = _ from by unfold rowGo; exact if_neg hi, show rowGo l (f + 1) i out = _ from by unfold rowGo; exact if_neg hi]
theorem rowGo_on (l : List S101) (i : Nat) (out : List S52) (hi : i < l.length) (hc : (rd_T101 l ((i + 1) % l.length : Nat)).f1 = true) : rowGo l (l.length - i) i out = rowGo l (l.length - (i + 1)) (i + 1) (out ++ [(rd_T101 l ((i + 1) % l.length : Nat)).f0]) := by
 obtain ⟨m, hm⟩ : ∃ m, l.length - i = m + 1 := ⟨l.length - i - 1, by omega⟩
 rw [hm, show l.length - (i + 1) = m by omega]
 rw [show rowGo l (m + 1) i out = _ from by unfold rowGo; exact if_pos hi, if_pos hc]
theorem rowGo_off (l : List S101) (i : Nat) (out : List S52) (hi : i < l.length) (hc : (rd_T101 l ((i + 1) % l.length : Nat)).f1 = false) : rowGo l (l.length - i) i out = rowGo l (l.length - (i + 2)) (i + 2) (out ++ curveK l i 8) := by
 obtain ⟨m, hm⟩ : ∃ m, l.length - i = m + 1 := ⟨l.length - i - 1, by omega⟩
 rw [hm, show rowGo l (m + 1) i out = _ from by unfold rowGo; exact if_pos hi, if_neg (by rw [hc]; decide)]
 cases m with
 | zero => rw [show l.length - (i + 2) = 0 by omega]
 | succ m => rw [show l.length - (i + 2) = m by omega]; exact rowGo_more l m (i + 2) _ (by omega)
theorem curveK_succ (l : List S101) (i m : Nat) : curveK l i (m + 1) = curveK l i m ++ [curveAt l i (1 + m)] := by simp [curveK, List.range_succ]
theorem curveK_len (l : List S101) (i m : Nat) : (curveK l i m).length = m := by simp [curveK]
theorem row_apart {α : Type} {d : Kd α} {H : List (Nat × Obj)} {W : World} {base : Nat} {ok : Nat → Prop} {v : Value} {xs : List α} (hB : Blks H W) (hH : ∀ p ∈ H, ∃ cs, p.2 = .cells cs 101 (0, 0)) (hO : d.R 52 W base ok v xs) : ∀ b ∈ H.map Prod.fst, v.ownBlock = some b → False := by
 intro b hb e
 obtain ⟨p, hp, rfl⟩ := List.mem_map.1 hb
 obtain ⟨cs, hc⟩ := hH p hp
 have h1 := hB.at_ p hp
 obtain ⟨_, inner, ho, _⟩ := hO
 obtain ⟨cells, h2⟩ := own_typed ho _ e
 rw [h1, hc] at h2
 injection h2 with h2
 injection h2 with _ h2
 cases h2
structure RowReg5 where
 mk ::
 b0 : Bool
 b1 : Bool
 b2 : Bool
 b3 : Bool
 b4 : Bool
 b5 : Bool
 b6 : Bool
 b7 : Bool
 b8 : Bool
 b9 : Bool
 b10 : Bool
 b11 : Bool
 b12 : Bool
 b13 : Bool
 b14 : Bool
 b15 : Bool
 b16 : Bool
 b17 : Bool
 b18 : Bool
 b19 : Bool
 b20 : Bool
 b21 : Bool
 b22 : Bool
 b23 : Bool
 b24 : Bool
 b25 : Bool
 gA : Nat
 gC : Nat
 gB : Nat
structure RowReg11 where
 mk ::
 b0 : Bool
 b1 : Bool
 b2 : Bool
 b3 : Bool
 b4 : Bool
 b5 : Bool
 b6 : Bool
 b7 : Bool
 b8 : Bool
 b9 : Bool
 b10 : Bool
 b11 : Bool
 b12 : Bool
 b13 : Bool
 b14 : Bool
 b15 : Bool
 b16 : Bool
 b17 : Bool
 b18 : Bool
 b19 : Bool
 b20 : Bool
 b21 : Bool
 b22 : Bool
 b23 : Bool
 b24 : Bool
 b25 : Bool
 b26 : Bool
 gH : Nat
 V1 : Value
set_option maxRecDepth 100000 in
set_option maxHeartbeats 4000000 in
theorem row_calls (A0 : Option Addr) (c0 : Nat) (l : List S101) (w : World) (hr : Kd.C k101 w A0 l.length l) (hc0 : l.length ≤ c0) (hpos : 0 < l.length) (hlim : l.length ≤ 3000000) :
  Calls Try.prog 48 #[.slice A0 l.length c0] w fun e w' => ∃ v : Value, e = .returned v ∧ Kd.R k52 52 w' w.heap.size (fun _ => True) v (rowL l) ∧ Below w.heap.size w w' := by
 have hu := Try.underlying52
 have hu2 := Try.underlying101
 have hu3 := Try.underlying83
 obtain ⟨ad, rfl, x0, x1, x2⟩ := at_T101 hr 0 (by omega) (by omega)
 have e0 : ad.add 0 = ad := by unfold Addr.add; split <;> simp_all
 simp only [Int.toNat_zero, Nat.zero_mul, e0] at x0 x1 x2
 clear e0
 have HR := aM hr
 clear hr
 go_enter Try.func48, Try.ntmps48
 go_wp2
 have hS0 : Kd.R k52 52 (w.alloc (.cells #[.int .i64 (rd_T101 l 0).f0.f0, .int .i64 (rd_T101 l 0).f0.f1] 52)) w.heap.size (Own1 (.slice (some ⟨w.heap.size, 0, none⟩) 1 1)) (.slice (some ⟨w.heap.size, 0, none⟩) 1 1) [(rd_T101 l 0).f0] := by
  refine ⟨fun k hk => hk.symm, [.int .i64 (rd_T101 l 0).f0.f0, .int .i64 (rd_T101 l 0).f0.f1], ⟨by simp; rfl, .inr ⟨w.heap.size, 1, _, rfl, Nat.le_refl _, World.alloc_heap_new w _, Nat.le_refl _, by simp [maxLen], by rfl, by rfl⟩⟩, ?_⟩
  exact Reps.snoc (ps := []) (cs := []) (Reps.none _ _) (k52_mkM _ _ _ _) rfl
 go_loopw [3, 4] (fun v3 v4 wr => ∃ (i : Nat) (out : List S52), i ≤ l.length + 1 ∧ v4 = .int .i64 i ∧ 1 ≤ out.length ∧ out.length ≤ 1 + 8 * i ∧ Aside0 (rowGo l (l.length - i) i out = rowAll l ∧ Kd.R k52 52 wr w.heap.size (Own1 v3) v3 out ∧ Below w.heap.size w wr))
  (fun _ v4 _ => l.length + 2 - (intOf v4).toNat)
 case atStart => exact ⟨0, _, by omega, rfl, by simp, by simp, ⟨rfl, hS0, (Below.refl _ _).alloc (Nat.le_refl _) _⟩⟩
 case round =>
  obtain ⟨i, out, hi, rfl, hol1, hol, ⟨HG, HO, HB⟩⟩ := hrel
  by_cases hlt : i < l.length
  ·
   obtain ⟨Ao, co, hv3⟩ := Kd.R_slice HO
   subst hv3
   have hOlt : ∀ k, (Value.slice Ao out.length co).ownBlock = some k → k < wr.heap.size := fun k hk => by obtain ⟨_, inner, ho, _⟩ := HO; exact own_lt ho k hk
   obtain ⟨j1, hj1⟩ : ∃ j1, (i + 1) % l.length = j1 := ⟨_, rfl⟩
   obtain ⟨j2, hj2⟩ : ∃ j2, (i + 2) % l.length = j2 := ⟨_, rfl⟩
   have hlj1 : j1 < l.length := by rw [← hj1]; exact Nat.mod_lt _ hpos
   have hlj2 : j2 < l.length := by rw [← hj2]; exact Nat.mod_lt _ hpos
   have hli : i < l.length := hlt
   have hw1 : wrap64 ((i : Int) + 1) = (i : Int) + 1 := by unfold wrap64; omega
   have hw2 : wrap64 ((i : Int) + 2) = (i : Int) + 2 := by unfold wrap64; omega
   have hw1' : IntKind.i64.wrap ((i : Int) + 1) = (i : Int) + 1 := (Go.Proofs.YtbmklpcheopgoaaW.PrintLast.i64_w _).trans hw1
   have hw2' : IntKind.i64.wrap ((i : Int) + 2) = (i : Int) + 2 := (Go.Proofs.YtbmklpcheopgoaaW.PrintLast.i64_w _).trans hw2
   have hn0 : ¬ ((l.length : Int) = 0) := by omega
   have hne : ¬ l = [] := fun h => by rw [h] at hpos; simp at hpos
   have hm1' : ((i : Int) + 1) % (l.length : Int) = (j1 : Int) := by rw [← hj1]; simp
   have hm2' : ((i : Int) + 2) % (l.length : Int) = (j2 : Int) := by rw [← hj2]; simp
   have hm1 : Int.tmod ((i : Int) + 1) (l.length : Int) = (j1 : Int) := by rw [Int.tmod_eq_emod_of_nonneg (by omega)]; exact hm1'
   have hm2 : Int.tmod ((i : Int) + 2) (l.length : Int) = (j2 : Int) := by rw [Int.tmod_eq_emod_of_nonneg (by omega)]; exact hm2'
   obtain ⟨_, e1, a0, a1, a2⟩ := at_T101 HR.out ((i : Nat) : Int) (by omega) (by omega)
   cases e1
   obtain ⟨_, e1, c0_, c1_, c2_⟩ := at_T101 HR.out ((j1 : Nat) : Int) (by omega) (by omega)
   cases e1
   obtain ⟨_, e1, b0_, b1_, b2_⟩ := at_T101 HR.out ((j2 : Nat) : Int) (by omega) (by omega)
   cases e1
   simp only [Int.toNat_natCast] at a0 a1 a2 c0_ c1_ c2_ b0_ b1_ b2_
   have fa0 := (HB.cell (World.block_lt_of_cell? w _ a0)).trans a0
   have fa1 := (HB.cell (World.block_lt_of_cell? w _ a1)).trans a1
   have fa2 := (HB.cell (World.block_lt_of_cell? w _ a2)).trans a2
   have fc0 := (HB.cell (World.block_lt_of_cell? w _ c0_)).trans c0_
   have fc1 := (HB.cell (World.block_lt_of_cell? w _ c1_)).trans c1_
   have fc2 := (HB.cell (World.block_lt_of_cell? w _ c2_)).trans c2_
   have fb0 := (HB.cell (World.block_lt_of_cell? w _ b0_)).trans b0_
   have fb1 := (HB.cell (World.block_lt_of_cell? w _ b1_)).trans b1_
   have fb2 := (HB.cell (World.block_lt_of_cell? w _ b2_)).trans b2_
   have HB_ := Lib.hid HB
   clear HB
   clear c0_ c1_ c2_ b0_ b1_ b2_ x0 x1 x2 a0 a1 a2
   go_wp2_with fail
   refine Go.Proofs.YtbmklpcheopgoaaReg.reg_inv (by rfl) [0, 1, 2, 3, 4, 5, 6, 7, 8, 9, 10, 11, 12, 13, 14, 15, 16, 17, 18, 19, 20, 21, 22, 23, 24, 25] (by kernel_rfl) (by kernel_rfl)
    (fun lst a W' => ∃ d : RowReg5, lst = #[d.b0, d.b1, d.b2, d.b3, d.b4, d.b5, d.b6, d.b7, d.b8, d.b9, d.b10, d.b11, d.b12, d.b13, d.b14, d.b15, d.b16, d.b17, d.b18, d.b19, d.b20, d.b21, d.b22, d.b23, d.b24, d.b25] ∧ a = ⟨#[.slice (some ad) l.length c0, undef, .slice none 0 0, .slice Ao out.length co, .int .i64 i, (cond d.b20 (.pointer (some ⟨d.gA, 0, none⟩)) u5), (cond d.b21 (.pointer (some ⟨d.gC, 0, none⟩)) u6), (cond d.b22 (.pointer (some ⟨d.gB, 0, none⟩)) u7), u8, .slice (some ad) l.length c0, .pointer (some ad), .pointer (some ad), .agg #[.int .i64 (rd_T101 l 0).f0.f0, .int .i64 (rd_T101 l 0).f0.f1], .slice (some ⟨w.heap.size, 0, none⟩) 1 1, .int .i64 i, .slice (some ad) l.length c0, .int .i64 l.length, .bool true, u18, u19, (cond d.b0 (.slice (some ad) l.length c0) u20), (cond d.b1 (.int .i64 i) u21), (cond d.b2 (.pointer (some (ad.add (i * 3)))) u22), (cond d.b3 (.agg #[.int .i64 (rd_T101 l ((i : Nat) : Int)).f0.f0, .int .i64 (rd_T101 l ((i : Nat) : Int)).f0.f1, .bool (rd_T101 l ((i : Nat) : Int)).f1]) u23), (cond d.b4 (.slice (some ad) l.length c0) u24), (cond d.b5 (.int .i64 i) u25), (cond d.b6 (.int .i64 ((i : Int) + 1)) u26), (cond d.b7 (.slice (some ad) l.length c0) u27), (cond d.b8 (.int .i64 l.length) u28), (cond d.b9 (.int .i64 j1) u29), (cond d.b10 (.pointer (some (ad.add (j1 * 3)))) u30), (cond d.b11 (.agg #[.int .i64 (rd_T101 l ((j1 : Nat) : Int)).f0.f0, .int .i64 (rd_T101 l ((j1 : Nat) : Int)).f0.f1, .bool (rd_T101 l ((j1 : Nat) : Int)).f1]) u31), (cond d.b12 (.slice (some ad) l.length c0) u32), (cond d.b13 (.int .i64 i) u33), (cond d.b14 (.int .i64 ((i : Int) + 2)) u34), (cond d.b15 (.slice (some ad) l.length c0) u35), (cond d.b16 (.int .i64 l.length) u36), (cond d.b17 (.int .i64 j2) u37), (cond d.b18 (.pointer (some (ad.add (j2 * 3)))) u38), (cond d.b19 (.agg #[.int .i64 (rd_T101 l ((j2 : Nat) : Int)).f0.f0, .int .i64 (rd_T101 l ((j2 : Nat) : Int)).f0.f1, .bool (rd_T101 l ((j2 : Nat) : Int)).f1]) u39), u40, u41, u42, u43, u44, u45, u46, u47, u48, u49, u50, u51, u52, u53, u54, u55, u56, u57, u58, u59, u60, u61, u62, u63, u64, u65, u66, u67, u68, u69, u70, u71, u72, u73, u74, u75, u76, u77, u78, undef, undef, undef, undef, undef], []⟩ ∧ (d.b23 = true → d.b20 = true) ∧ (d.b23 = true → d.b21 = true) ∧ (d.b23 = true → d.b22 = true) ∧ (d.b24 = true → d.b20 = true) ∧ (d.b24 = true → d.b21 = true) ∧ (d.b24 = true → d.b22 = true) ∧ (d.b25 = true → d.b20 = true) ∧ (d.b25 = true → d.b21 = true) ∧ (d.b25 = true → d.b22 = true) ∧ (d.b20 = true → W'.heap[d.gA]? = some (.cells #[cond d.b23 (.int .i64 (rd_T101 l ((i : Nat) : Int)).f0.f0) (.int .i64 0), cond d.b23 (.int .i64 (rd_T101 l ((i : Nat) : Int)).f0.f1) (.int .i64 0), cond d.b23 (.bool (rd_T101 l ((i : Nat) : Int)).f1) (.bool false)] 101 (0, 0))) ∧ (d.b21 = true → W'.heap[d.gC]? = some (.cells #[cond d.b24 (.int .i64 (rd_T101 l ((j1 : Nat) : Int)).f0.f0) (.int .i64 0), cond d.b24 (.int .i64 (rd_T101 l ((j1 : Nat) : Int)).f0.f1) (.int .i64 0), cond d.b24 (.bool (rd_T101 l ((j1 : Nat) : Int)).f1) (.bool false)] 101 (0, 0))) ∧ (d.b22 = true → W'.heap[d.gB]? = some (.cells #[cond d.b25 (.int .i64 (rd_T101 l ((j2 : Nat) : Int)).f0.f0) (.int .i64 0), cond d.b25 (.int .i64 (rd_T101 l ((j2 : Nat) : Int)).f0.f1) (.int .i64 0), cond d.b25 (.bool (rd_T101 l ((j2 : Nat) : Int)).f1) (.bool false)] 101 (0, 0))) ∧ (d.b20 = true → d.b21 = true → d.gA ≠ d.gC) ∧ (d.b20 = true → d.b22 = true → d.gA ≠ d.gB) ∧ (d.b21 = true → d.b22 = true → d.gC ≠ d.gB) ∧ (d.b20 = true → wr.heap.size ≤ d.gA) ∧ (d.b21 = true → wr.heap.size ≤ d.gC) ∧ (d.b22 = true → wr.heap.size ≤ d.gB) ∧ (Kd.R k52 52 W' w.heap.size (Own1 (.slice Ao out.length co)) (.slice Ao out.length co) out) ∧ (Below wr.heap.size wr W')) ?_ ?_ ?_ ?_
   ·
    rintro lst a W' ⟨d, rfl, _⟩
    rfl
   ·
    exact ⟨⟨false, false, false, false, false, false, false, false, false, false, false, false, false, false, false, false, false, false, false, false, false, false, false, false, false, false, 0, 0, 0⟩, rfl, rfl, (fun h => Bool.noConfusion h), (fun h => Bool.noConfusion h), (fun h => Bool.noConfusion h), (fun h => Bool.noConfusion h), (fun h => Bool.noConfusion h), (fun h => Bool.noConfusion h), (fun h => Bool.noConfusion h), (fun h => Bool.noConfusion h), (fun h => Bool.noConfusion h), (fun h => Bool.noConfusion h), (fun h => Bool.noConfusion h), (fun h => Bool.noConfusion h), (fun h => Bool.noConfusion h), (fun h => Bool.noConfusion h), (fun h => Bool.noConfusion h), (fun h => Bool.noConfusion h), (fun h => Bool.noConfusion h), (fun h => Bool.noConfusion h), (R_chg HO ((Chg.refl (fun _ => False) _).drew) (fun _ _ => id)), (below_drew (Below.refl _ _))⟩
   ·
    rintro lst a W' i o ⟨⟨b0, b1, b2, b3, b4, b5, b6, b7, b8, b9, b10, b11, b12, b13, b14, b15, b16, b17, b18, b19, b20, b21, b22, b23, b24, b25, gA, gC, gB⟩, rfl, rfl, k0, k1, k2, k3, k4, k5, k6, k7, k8, hHA, hHC, hHD, hN1, hN2, hN3, hG1, hG2, hG3, hHO, hHB⟩ ho hf hd K hK
    dsimp only at k0 k1 k2 k3 k4 k5 k6 k7 k8 hHA hHC hHD hN1 hN2 hN3 hG1 hG2 hG3 hHO hHB
    have hi : i < 26 := (Array.getElem?_eq_some_iff.1 ho).1
    have ho2 := ho
    rcases (show i = 0 ∨ i = 1 ∨ i = 2 ∨ i = 3 ∨ i = 4 ∨ i = 5 ∨ i = 6 ∨ i = 7 ∨ i = 8 ∨ i = 9 ∨ i = 10 ∨ i = 11 ∨ i = 12 ∨ i = 13 ∨ i = 14 ∨ i = 15 ∨ i = 16 ∨ i = 17 ∨ i = 18 ∨ i = 19 ∨ i = 20 ∨ i = 21 ∨ i = 22 ∨ i = 23 ∨ i = 24 ∨ i = 25 by omega) with rfl | rfl | rfl | rfl | rfl | rfl | rfl | rfl | rfl | rfl | rfl | rfl | rfl | rfl | rfl | rfl | rfl | rfl | rfl | rfl | rfl | rfl | rfl | rfl | rfl | rfl
    ·
     simp only [List.getElem?_toArray, List.getElem?_cons_succ, List.getElem?_cons_zero, Option.some.injEq] at ho
     subst ho
     replace hf : b0 = false := hf
     subst hf
     refine Go.Proofs.YtbmklpcheopgoaaReg.op_val ho2 rfl (v := .slice (some ad) l.length c0) (w1 := W') ?_ (hK _ _ ⟨⟨true, b1, b2, b3, b4, b5, b6, b7, b8, b9, b10, b11, b12, b13, b14, b15, b16, b17, b18, b19, b20, b21, b22, b23, b24, b25, gA, gC, gB⟩, rfl, rfl, (k0), (k1), (k2), (k3), (k4), (k5), (k6), (k7), (k8), hHA, hHC, hHD, hN1, hN2, hN3, hG1, hG2, hG3, hHO, hHB⟩)
     simp [go_sem, hu3]
    ·
     simp only [List.getElem?_toArray, List.getElem?_cons_succ, List.getElem?_cons_zero, Option.some.injEq] at ho
     subst ho
     replace hf : b1 = false := hf
     subst hf
     refine Go.Proofs.YtbmklpcheopgoaaReg.op_val ho2 rfl (v := .int .i64 i) (w1 := W') ?_ (hK _ _ ⟨⟨b0, true, b2, b3, b4, b5, b6, b7, b8, b9, b10, b11, b12, b13, b14, b15, b16, b17, b18, b19, b20, b21, b22, b23, b24, b25, gA, gC, gB⟩, rfl, rfl, (k0), (k1), (k2), (k3), (k4), (k5), (k6), (k7), (k8), hHA, hHC, hHD, hN1, hN2, hN3, hG1, hG2, hG3, hHO, hHB⟩)
     simp [go_sem, hu3]
    ·
     simp only [List.getElem?_toArray, List.getElem?_cons_succ, List.getElem?_cons_zero, Option.some.injEq] at ho
     subst ho
     replace hf : b2 = false := hf
     have d0 : b0 = true := hd ⟨0, .data⟩ (by simp) rfl
     have d1 : b1 = true := hd ⟨1, .data⟩ (by simp) rfl
     subst d0
     subst d1
     subst hf
     refine Go.Proofs.YtbmklpcheopgoaaReg.op_val ho2 rfl (v := .pointer (some (ad.add (i * 3)))) (w1 := W') ?_ (hK _ _ ⟨⟨true, true, true, b3, b4, b5, b6, b7, b8, b9, b10, b11, b12, b13, b14, b15, b16, b17, b18, b19, b20, b21, b22, b23, b24, b25, gA, gC, gB⟩, rfl, rfl, (k0), (k1), (k2), (k3), (k4), (k5), (k6), (k7), (k8), hHA, hHC, hHD, hN1, hN2, hN3, hG1, hG2, hG3, hHO, hHB⟩)
     simp [go_sem, hu3, hli]
    ·
     simp only [List.getElem?_toArray, List.getElem?_cons_succ, List.getElem?_cons_zero, Option.some.injEq] at ho
     subst ho
     replace hf : b3 = false := hf
     have d2 : b2 = true := hd ⟨2, .data⟩ (by simp) rfl
     subst d2
     subst hf
     refine Go.Proofs.YtbmklpcheopgoaaReg.op_val ho2 rfl (v := .agg #[.int .i64 (rd_T101 l ((i : Nat) : Int)).f0.f0, .int .i64 (rd_T101 l ((i : Nat) : Int)).f0.f1, .bool (rd_T101 l ((i : Nat) : Int)).f1]) (w1 := W') ?_ (hK _ _ ⟨⟨b0, b1, true, true, b4, b5, b6, b7, b8, b9, b10, b11, b12, b13, b14, b15, b16, b17, b18, b19, b20, b21, b22, b23, b24, b25, gA, gC, gB⟩, rfl, rfl, (k0), (k1), (k2), (k3), (k4), (k5), (k6), (k7), (k8), hHA, hHC, hHD, hN1, hN2, hN3, hG1, hG2, hG3, hHO, hHB⟩)
     simp [go_sem, hu, hu2, (hHB.cell (World.block_lt_of_cell? wr _ fa0)).trans fa0, (hHB.cell (World.block_lt_of_cell? wr _ fa1)).trans fa1, (hHB.cell (World.block_lt_of_cell? wr _ fa2)).trans fa2]
    ·
     simp only [List.getElem?_toArray, List.getElem?_cons_succ, List.getElem?_cons_zero, Option.some.injEq] at ho
     subst ho
     replace hf : b4 = false := hf
     subst hf
     refine Go.Proofs.YtbmklpcheopgoaaReg.op_val ho2 rfl (v := .slice (some ad) l.length c0) (w1 := W') ?_ (hK _ _ ⟨⟨b0, b1, b2, b3, true, b5, b6, b7, b8, b9, b10, b11, b12, b13, b14, b15, b16, b17, b18, b19, b20, b21, b22, b23, b24, b25, gA, gC, gB⟩, rfl, rfl, (k0), (k1), (k2), (k3), (k4), (k5), (k6), (k7), (k8), hHA, hHC, hHD, hN1, hN2, hN3, hG1, hG2, hG3, hHO, hHB⟩)
     simp [go_sem, hu3]
    ·
     simp only [List.getElem?_toArray, List.getElem?_cons_succ, List.getElem?_cons_zero, Option.some.injEq] at ho
     subst ho
     replace hf : b5 = false := hf
     subst hf
     refine Go.Proofs.YtbmklpcheopgoaaReg.op_val ho2 rfl (v := .int .i64 i) (w1 := W') ?_ (hK _ _ ⟨⟨b0, b1, b2, b3, b4, true, b6, b7, b8, b9, b10, b11, b12, b13, b14, b15, b16, b17, b18, b19, b20, b21, b22, b23, b24, b25, gA, gC, gB⟩, rfl, rfl, (k0), (k1), (k2), (k3), (k4), (k5), (k6), (k7), (k8), hHA, hHC, hHD, hN1, hN2, hN3, hG1, hG2, hG3, hHO, hHB⟩)
     simp [go_sem, hu3]
    ·
     simp only [List.getElem?_toArray, List.getElem?_cons_succ, List.getElem?_cons_zero, Option.some.injEq] at ho
     subst ho
     replace hf : b6 = false := hf
     have d5 : b5 = true := hd ⟨5, .data⟩ (by simp) rfl
     subst d5
     subst hf
     refine Go.Proofs.YtbmklpcheopgoaaReg.op_val ho2 rfl (v := .int .i64 ((i : Int) + 1)) (w1 := W') ?_ (hK _ _ ⟨⟨b0, b1, b2, b3, b4, true, true, b7, b8, b9, b10, b11, b12, b13, b14, b15, b16, b17, b18, b19, b20, b21, b22, b23, b24, b25, gA, gC, gB⟩, rfl, rfl, (k0), (k1), (k2), (k3), (k4), (k5), (k6), (k7), (k8), hHA, hHC, hHD, hN1, hN2, hN3, hG1, hG2, hG3, hHO, hHB⟩)
     simp [go_sem, hw1, hw1']
    ·
     simp only [List.getElem?_toArray, List.getElem?_cons_succ, List.getElem?_cons_zero, Option.some.injEq] at ho
     subst ho
     replace hf : b7 = false := hf
     subst hf
     refine Go.Proofs.YtbmklpcheopgoaaReg.op_val ho2 rfl (v := .slice (some ad) l.length c0) (w1 := W') ?_ (hK _ _ ⟨⟨b0, b1, b2, b3, b4, b5, b6, true, b8, b9, b10, b11, b12, b13, b14, b15, b16, b17, b18, b19, b20, b21, b22, b23, b24, b25, gA, gC, gB⟩, rfl, rfl, (k0), (k1), (k2), (k3), (k4), (k5), (k6), (k7), (k8), hHA, hHC, hHD, hN1, hN2, hN3, hG1, hG2, hG3, hHO, hHB⟩)
     simp [go_sem, hu3]
    ·
     simp only [List.getElem?_toArray, List.getElem?_cons_succ, List.getElem?_cons_zero, Option.some.injEq] at ho
     subst ho
     replace hf : b8 = false := hf
     have d7 : b7 = true := hd ⟨7, .data⟩ (by simp) rfl
     subst d7
     subst hf
     refine Go.Proofs.YtbmklpcheopgoaaReg.op_val ho2 rfl (v := .int .i64 l.length) (w1 := W') ?_ (hK _ _ ⟨⟨b0, b1, b2, b3, b4, b5, b6, true, true, b9, b10, b11, b12, b13, b14, b15, b16, b17, b18, b19, b20, b21, b22, b23, b24, b25, gA, gC, gB⟩, rfl, rfl, (k0), (k1), (k2), (k3), (k4), (k5), (k6), (k7), (k8), hHA, hHC, hHD, hN1, hN2, hN3, hG1, hG2, hG3, hHO, hHB⟩)
     simp [go_sem, hu3]
    ·
     simp only [List.getElem?_toArray, List.getElem?_cons_succ, List.getElem?_cons_zero, Option.some.injEq] at ho
     subst ho
     replace hf : b9 = false := hf
     have d6 : b6 = true := hd ⟨6, .data⟩ (by simp) rfl
     have d8 : b8 = true := hd ⟨8, .data⟩ (by simp) rfl
     subst d6
     subst d8
     subst hf
     refine Go.Proofs.YtbmklpcheopgoaaReg.op_val ho2 rfl (v := .int .i64 j1) (w1 := W') ?_ (hK _ _ ⟨⟨b0, b1, b2, b3, b4, b5, true, b7, true, true, b10, b11, b12, b13, b14, b15, b16, b17, b18, b19, b20, b21, b22, b23, b24, b25, gA, gC, gB⟩, rfl, rfl, (k0), (k1), (k2), (k3), (k4), (k5), (k6), (k7), (k8), hHA, hHC, hHD, hN1, hN2, hN3, hG1, hG2, hG3, hHO, hHB⟩)
     simp [go_sem, hm1, hn0, hm1', hne]
    ·
     simp only [List.getElem?_toArray, List.getElem?_cons_succ, List.getElem?_cons_zero, Option.some.injEq] at ho
     subst ho
     replace hf : b10 = false := hf
     have d4 : b4 = true := hd ⟨4, .data⟩ (by simp) rfl
     have d9 : b9 = true := hd ⟨9, .data⟩ (by simp) rfl
     subst d4
     subst d9
     subst hf
     refine Go.Proofs.YtbmklpcheopgoaaReg.op_val ho2 rfl (v := .pointer (some (ad.add (j1 * 3)))) (w1 := W') ?_ (hK _ _ ⟨⟨b0, b1, b2, b3, true, b5, b6, b7, b8, true, true, b11, b12, b13, b14, b15, b16, b17, b18, b19, b20, b21, b22, b23, b24, b25, gA, gC, gB⟩, rfl, rfl, (k0), (k1), (k2), (k3), (k4), (k5), (k6), (k7), (k8), hHA, hHC, hHD, hN1, hN2, hN3, hG1, hG2, hG3, hHO, hHB⟩)
     simp [go_sem, hu3, hlj1]
    ·
     simp only [List.getElem?_toArray, List.getElem?_cons_succ, List.getElem?_cons_zero, Option.some.injEq] at ho
     subst ho
     replace hf : b11 = false := hf
     have d10 : b10 = true := hd ⟨10, .data⟩ (by simp) rfl
     subst d10
     subst hf
     refine Go.Proofs.YtbmklpcheopgoaaReg.op_val ho2 rfl (v := .agg #[.int .i64 (rd_T101 l ((j1 : Nat) : Int)).f0.f0, .int .i64 (rd_T101 l ((j1 : Nat) : Int)).f0.f1, .bool (rd_T101 l ((j1 : Nat) : Int)).f1]) (w1 := W') ?_ (hK _ _ ⟨⟨b0, b1, b2, b3, b4, b5, b6, b7, b8, b9, true, true, b12, b13, b14, b15, b16, b17, b18, b19, b20, b21, b22, b23, b24, b25, gA, gC, gB⟩, rfl, rfl, (k0), (k1), (k2), (k3), (k4), (k5), (k6), (k7), (k8), hHA, hHC, hHD, hN1, hN2, hN3, hG1, hG2, hG3, hHO, hHB⟩)
     simp [go_sem, hu, hu2, (hHB.cell (World.block_lt_of_cell? wr _ fc0)).trans fc0, (hHB.cell (World.block_lt_of_cell? wr _ fc1)).trans fc1, (hHB.cell (World.block_lt_of_cell? wr _ fc2)).trans fc2]
    ·
     simp only [List.getElem?_toArray, List.getElem?_cons_succ, List.getElem?_cons_zero, Option.some.injEq] at ho
     subst ho
     replace hf : b12 = false := hf
     subst hf
     refine Go.Proofs.YtbmklpcheopgoaaReg.op_val ho2 rfl (v := .slice (some ad) l.length c0) (w1 := W') ?_ (hK _ _ ⟨⟨b0, b1, b2, b3, b4, b5, b6, b7, b8, b9, b10, b11, true, b13, b14, b15, b16, b17, b18, b19, b20, b21, b22, b23, b24, b25, gA, gC, gB⟩, rfl, rfl, (k0), (k1), (k2), (k3), (k4), (k5), (k6), (k7), (k8), hHA, hHC, hHD, hN1, hN2, hN3, hG1, hG2, hG3, hHO, hHB⟩)
     simp [go_sem, hu3]
    ·
     simp only [List.getElem?_toArray, List.getElem?_cons_succ, List.getElem?_cons_zero, Option.some.injEq] at ho
     subst ho
     replace hf : b13 = false := hf
     subst hf
     refine Go.Proofs.YtbmklpcheopgoaaReg.op_val ho2 rfl (v := .int .i64 i) (w1 := W') ?_ (hK _ _ ⟨⟨b0, b1, b2, b3, b4, b5, b6, b7, b8, b9, b10, b11, b12, true, b14, b15, b16, b17, b18, b19, b20, b21, b22, b23, b24, b25, gA, gC, gB⟩, rfl, rfl, (k0), (k1), (k2), (k3), (k4), (k5), (k6), (k7), (k8), hHA, hHC, hHD, hN1, hN2, hN3, hG1, hG2, hG3, hHO, hHB⟩)
     simp [go_sem, hu3]
    ·
     simp only [List.getElem?_toArray, List.getElem?_cons_succ, List.getElem?_cons_zero, Option.some.injEq] at ho
     subst ho
     replace hf : b14 = false := hf
     have d13 : b13 = true := hd ⟨13, .data⟩ (by simp) rfl
     subst d13
     subst hf
     refine Go.Proofs.YtbmklpcheopgoaaReg.op_val ho2 rfl (v := .int .i64 ((i : Int) + 2)) (w1 := W') ?_ (hK _ _ ⟨⟨b0, b1, b2, b3, b4, b5, b6, b7, b8, b9, b10, b11, b12, true, true, b15, b16, b17, b18, b19, b20, b21, b22, b23, b24, b25, gA, gC, gB⟩, rfl, rfl, (k0), (k1), (k2), (k3), (k4), (k5), (k6), (k7), (k8), hHA, hHC, hHD, hN1, hN2, hN3, hG1, hG2, hG3, hHO, hHB⟩)
     simp [go_sem, hw2, hw2']
    ·
     simp only [List.getElem?_toArray, List.getElem?_cons_succ, List.getElem?_cons_zero, Option.some.injEq] at ho
     subst ho
     replace hf : b15 = false := hf
     subst hf
     refine Go.Proofs.YtbmklpcheopgoaaReg.op_val ho2 rfl (v := .slice (some ad) l.length c0) (w1 := W') ?_ (hK _ _ ⟨⟨b0, b1, b2, b3, b4, b5, b6, b7, b8, b9, b10, b11, b12, b13, b14, true, b16, b17, b18, b19, b20, b21, b22, b23, b24, b25, gA, gC, gB⟩, rfl, rfl, (k0), (k1), (k2), (k3), (k4), (k5), (k6), (k7), (k8), hHA, hHC, hHD, hN1, hN2, hN3, hG1, hG2, hG3, hHO, hHB⟩)
     simp [go_sem, hu3]
    ·
     simp only [List.getElem?_toArray, List.getElem?_cons_succ, List.getElem?_cons_zero, Option.some.injEq] at ho
     subst ho
     replace hf : b16 = false := hf
     have d15 : b15 = true := hd ⟨15, .data⟩ (by simp) rfl
     subst d15
     subst hf
     refine Go.Proofs.YtbmklpcheopgoaaReg.op_val ho2 rfl (v := .int .i64 l.length) (w1 := W') ?_ (hK _ _ ⟨⟨b0, b1, b2, b3, b4, b5, b6, b7, b8, b9, b10, b11, b12, b13, b14, true, true, b17, b18, b19, b20, b21, b22, b23, b24, b25, gA, gC, gB⟩, rfl, rfl, (k0), (k1), (k2), (k3), (k4), (k5), (k6), (k7), (k8), hHA, hHC, hHD, hN1, hN2, hN3, hG1, hG2, hG3, hHO, hHB⟩)
     simp [go_sem, hu3]
    ·
     simp only [List.getElem?_toArray, List.getElem?_cons_succ, List.getElem?_cons_zero, Option.some.injEq] at ho
     subst ho
     replace hf : b17 = false := hf
     have d14 : b14 = true := hd ⟨14, .data⟩ (by simp) rfl
     have d16 : b16 = true := hd ⟨16, .data⟩ (by simp) rfl
     subst d14
     subst d16
     subst hf
     refine Go.Proofs.YtbmklpcheopgoaaReg.op_val ho2 rfl (v := .int .i64 j2) (w1 := W') ?_ (hK _ _ ⟨⟨b0, b1, b2, b3, b4, b5, b6, b7, b8, b9, b10, b11, b12, b13, true, b15, true, true, b18, b19, b20, b21, b22, b23, b24, b25, gA, gC, gB⟩, rfl, rfl, (k0), (k1), (k2), (k3), (k4), (k5), (k6), (k7), (k8), hHA, hHC, hHD, hN1, hN2, hN3, hG1, hG2, hG3, hHO, hHB⟩)
     simp [go_sem, hm2, hn0, hm2', hne]
    ·
     simp only [List.getElem?_toArray, List.getElem?_cons_succ, List.getElem?_cons_zero, Option.some.injEq] at ho
     subst ho
     replace hf : b18 = false := hf
     have d12 : b12 = true := hd ⟨12, .data⟩ (by simp) rfl
     have d17 : b17 = true := hd ⟨17, .data⟩ (by simp) rfl
     subst d12
     subst d17
     subst hf
     refine Go.Proofs.YtbmklpcheopgoaaReg.op_val ho2 rfl (v := .pointer (some (ad.add (j2 * 3)))) (w1 := W') ?_ (hK _ _ ⟨⟨b0, b1, b2, b3, b4, b5, b6, b7, b8, b9, b10, b11, true, b13, b14, b15, b16, true, true, b19, b20, b21, b22, b23, b24, b25, gA, gC, gB⟩, rfl, rfl, (k0), (k1), (k2), (k3), (k4), (k5), (k6), (k7), (k8), hHA, hHC, hHD, hN1, hN2, hN3, hG1, hG2, hG3, hHO, hHB⟩)
     simp [go_sem, hu3, hlj2]
    ·
     simp only [List.getElem?_toArray, List.getElem?_cons_succ, List.getElem?_cons_zero, Option.some.injEq] at ho
     subst ho
     replace hf : b19 = false := hf
     have d18 : b18 = true := hd ⟨18, .data⟩ (by simp) rfl
     subst d18
     subst hf
     refine Go.Proofs.YtbmklpcheopgoaaReg.op_val ho2 rfl (v := .agg #[.int .i64 (rd_T101 l ((j2 : Nat) : Int)).f0.f0, .int .i64 (rd_T101 l ((j2 : Nat) : Int)).f0.f1, .bool (rd_T101 l ((j2 : Nat) : Int)).f1]) (w1 := W') ?_ (hK _ _ ⟨⟨b0, b1, b2, b3, b4, b5, b6, b7, b8, b9, b10, b11, b12, b13, b14, b15, b16, b17, true, true, b20, b21, b22, b23, b24, b25, gA, gC, gB⟩, rfl, rfl, (k0), (k1), (k2), (k3), (k4), (k5), (k6), (k7), (k8), hHA, hHC, hHD, hN1, hN2, hN3, hG1, hG2, hG3, hHO, hHB⟩)
     simp [go_sem, hu, hu2, (hHB.cell (World.block_lt_of_cell? wr _ fb0)).trans fb0, (hHB.cell (World.block_lt_of_cell? wr _ fb1)).trans fb1, (hHB.cell (World.block_lt_of_cell? wr _ fb2)).trans fb2]
    ·
     simp only [List.getElem?_toArray, List.getElem?_cons_succ, List.getElem?_cons_zero, Option.some.injEq] at ho
     subst ho
     replace hf : b20 = false := hf
     have n23 : b23 = false := Bool.eq_false_iff.mpr (fun h => absurd (k0 h) (by rw [hf]; decide))
     have n24 : b24 = false := Bool.eq_false_iff.mpr (fun h => absurd (k3 h) (by rw [hf]; decide))
     have n25 : b25 = false := Bool.eq_false_iff.mpr (fun h => absurd (k6 h) (by rw [hf]; decide))
     subst n23
     subst n24
     subst n25
     subst hf
     refine Go.Proofs.YtbmklpcheopgoaaReg.op_val ho2 rfl (v := .pointer (some ⟨(W'.heap.size), 0, none⟩)) (w1 := W'.alloc (.cells #[.int .i64 0, .int .i64 0, .bool false] 101)) ?_ (hK _ _ ⟨⟨b0, b1, b2, b3, b4, b5, b6, b7, b8, b9, b10, b11, b12, b13, b14, b15, b16, b17, b18, b19, true, b21, b22, false, false, false, W'.heap.size, gC, gB⟩, rfl, rfl, (fun _ => rfl), (fun h => Bool.noConfusion h), (fun h => Bool.noConfusion h), (fun _ => rfl), (fun h => Bool.noConfusion h), (fun h => Bool.noConfusion h), (fun _ => rfl), (fun h => Bool.noConfusion h), (fun h => Bool.noConfusion h), (fun _ => blk_new W' (.cells #[.int .i64 0, .int .i64 0, .bool false] 101)), (fun h => kA (hHC h) _), (fun h => kA (hHD h) _), (fun _ h e => absurd (blk_lt (hHC h)) (by dsimp only at e; omega)), (fun _ h e => absurd (blk_lt (hHD h)) (by dsimp only at e; omega)), hN3, (fun _ => hHB.size), hG2, hG3, (R_chg hHO ((Chg.refl (fun _ => False) _).alloc _) (fun _ _ => id)), (hHB.alloc hHB.size _)⟩)
     simp [go_sem, hu, hu2]
    ·
     simp only [List.getElem?_toArray, List.getElem?_cons_succ, List.getElem?_cons_zero, Option.some.injEq] at ho
     subst ho
     replace hf : b21 = false := hf
     have n23 : b23 = false := Bool.eq_false_iff.mpr (fun h => absurd (k1 h) (by rw [hf]; decide))
     have n24 : b24 = false := Bool.eq_false_iff.mpr (fun h => absurd (k4 h) (by rw [hf]; decide))
     have n25 : b25 = false := Bool.eq_false_iff.mpr (fun h => absurd (k7 h) (by rw [hf]; decide))
     subst n23
     subst n24
     subst n25
     subst hf
     refine Go.Proofs.YtbmklpcheopgoaaReg.op_val ho2 rfl (v := .pointer (some ⟨(W'.heap.size), 0, none⟩)) (w1 := W'.alloc (.cells #[.int .i64 0, .int .i64 0, .bool false] 101)) ?_ (hK _ _ ⟨⟨b0, b1, b2, b3, b4, b5, b6, b7, b8, b9, b10, b11, b12, b13, b14, b15, b16, b17, b18, b19, b20, true, b22, false, false, false, gA, W'.heap.size, gB⟩, rfl, rfl, (fun h => Bool.noConfusion h), (fun _ => rfl), (fun h => Bool.noConfusion h), (fun h => Bool.noConfusion h), (fun _ => rfl), (fun h => Bool.noConfusion h), (fun h => Bool.noConfusion h), (fun _ => rfl), (fun h => Bool.noConfusion h), (fun h => kA (hHA h) _), (fun _ => blk_new W' (.cells #[.int .i64 0, .int .i64 0, .bool false] 101)), (fun h => kA (hHD h) _), (fun h _ e => absurd (blk_lt (hHA h)) (by dsimp only at e; omega)), hN2, (fun _ h e => absurd (blk_lt (hHD h)) (by dsimp only at e; omega)), hG1, (fun _ => hHB.size), hG3, (R_chg hHO ((Chg.refl (fun _ => False) _).alloc _) (fun _ _ => id)), (hHB.alloc hHB.size _)⟩)
     simp [go_sem, hu, hu2]
    ·
     simp only [List.getElem?_toArray, List.getElem?_cons_succ, List.getElem?_cons_zero, Option.some.injEq] at ho
     subst ho
     replace hf : b22 = false := hf
     have n23 : b23 = false := Bool.eq_false_iff.mpr (fun h => absurd (k2 h) (by rw [hf]; decide))
     have n24 : b24 = false := Bool.eq_false_iff.mpr (fun h => absurd (k5 h) (by rw [hf]; decide))
     have n25 : b25 = false := Bool.eq_false_iff.mpr (fun h => absurd (k8 h) (by rw [hf]; decide))
     subst n23
     subst n24
     subst n25
     subst hf
     refine Go.Proofs.YtbmklpcheopgoaaReg.op_val ho2 rfl (v := .pointer (some ⟨(W'.heap.size), 0, none⟩)) (w1 := W'.alloc (.cells #[.int .i64 0, .int .i64 0, .bool false] 101)) ?_ (hK _ _ ⟨⟨b0, b1, b2, b3, b4, b5, b6, b7, b8, b9, b10, b11, b12, b13, b14, b15, b16, b17, b18, b19, b20, b21, true, false, false, false, gA, gC, W'.heap.size⟩, rfl, rfl, (fun h => Bool.noConfusion h), (fun h => Bool.noConfusion h), (fun _ => rfl), (fun h => Bool.noConfusion h), (fun h => Bool.noConfusion h), (fun _ => rfl), (fun h => Bool.noConfusion h), (fun h => Bool.noConfusion h), (fun _ => rfl), (fun h => kA (hHA h) _), (fun h => kA (hHC h) _), (fun _ => blk_new W' (.cells #[.int .i64 0, .int .i64 0, .bool false] 101)), hN1, (fun h _ e => absurd (blk_lt (hHA h)) (by dsimp only at e; omega)), (fun h _ e => absurd (blk_lt (hHC h)) (by dsimp only at e; omega)), hG1, hG2, (fun _ => hHB.size), (R_chg hHO ((Chg.refl (fun _ => False) _).alloc _) (fun _ _ => id)), (hHB.alloc hHB.size _)⟩)
     simp [go_sem, hu, hu2]
    ·
     simp only [List.getElem?_toArray, List.getElem?_cons_succ, List.getElem?_cons_zero, Option.some.injEq] at ho
     subst ho
     replace hf : b23 = false := hf
     have d0 : b0 = true := hd ⟨0, .phase⟩ (by simp) rfl
     have d1 : b1 = true := hd ⟨1, .phase⟩ (by simp) rfl
     have d2 : b2 = true := hd ⟨2, .phase⟩ (by simp) rfl
     have d3 : b3 = true := hd ⟨3, .data⟩ (by simp) rfl
     have d20 : b20 = true := hd ⟨20, .data⟩ (by simp) rfl
     have d21 : b21 = true := hd ⟨21, .phase⟩ (by simp) rfl
     have d22 : b22 = true := hd ⟨22, .phase⟩ (by simp) rfl
     subst d0
     subst d1
     subst d2
     subst d3
     subst d20
     subst d21
     subst d22
     subst hf
     refine Go.Proofs.YtbmklpcheopgoaaReg.op_skip ho2 rfl (w1 := (((W'.setCell ⟨gA, 0, none⟩ (.int .i64 (rd_T101 l ((i : Nat) : Int)).f0.f0)).setCell ⟨gA, 1, none⟩ (.int .i64 (rd_T101 l ((i : Nat) : Int)).f0.f1)).setCell ⟨gA, 2, none⟩ (.bool (rd_T101 l ((i : Nat) : Int)).f1))) ?_ (hK _ _ ⟨⟨true, true, true, true, b4, b5, b6, b7, b8, b9, b10, b11, b12, b13, b14, b15, b16, b17, b18, b19, true, true, true, true, b24, b25, gA, gC, gB⟩, rfl, rfl, (fun _ => rfl), (fun _ => rfl), (fun _ => rfl), (fun _ => rfl), (fun _ => rfl), (fun _ => rfl), (fun _ => rfl), (fun _ => rfl), (fun _ => rfl), (fun _ => (blk_put (blk_put (blk_put (hHA rfl) 0 (.int .i64 (rd_T101 l ((i : Nat) : Int)).f0.f0) rfl) 1 (.int .i64 (rd_T101 l ((i : Nat) : Int)).f0.f1) rfl) 2 (.bool (rd_T101 l ((i : Nat) : Int)).f1) rfl)), (fun _ => Chg.heap (Chg.setCell (p := ⟨gA, 2, none⟩) (Chg.setCell (p := ⟨gA, 1, none⟩) (Chg.setCell (p := ⟨gA, 0, none⟩) (Chg.refl (fun b => b = gA) W') (fun _ => rfl) (.int .i64 (rd_T101 l ((i : Nat) : Int)).f0.f0)) (fun _ => rfl) (.int .i64 (rd_T101 l ((i : Nat) : Int)).f0.f1)) (fun _ => rfl) (.bool (rd_T101 l ((i : Nat) : Int)).f1)) (hHC rfl) (fun e => hN1 rfl rfl e.symm)), (fun _ => Chg.heap (Chg.setCell (p := ⟨gA, 2, none⟩) (Chg.setCell (p := ⟨gA, 1, none⟩) (Chg.setCell (p := ⟨gA, 0, none⟩) (Chg.refl (fun b => b = gA) W') (fun _ => rfl) (.int .i64 (rd_T101 l ((i : Nat) : Int)).f0.f0)) (fun _ => rfl) (.int .i64 (rd_T101 l ((i : Nat) : Int)).f0.f1)) (fun _ => rfl) (.bool (rd_T101 l ((i : Nat) : Int)).f1)) (hHD rfl) (fun e => hN2 rfl rfl e.symm)), hN1, hN2, hN3, hG1, hG2, hG3, (R_chg hHO (Chg.setCell (p := ⟨gA, 2, none⟩) (Chg.setCell (p := ⟨gA, 1, none⟩) (Chg.setCell (p := ⟨gA, 0, none⟩) (Chg.refl (fun b => b = gA) W') (fun _ => rfl) (.int .i64 (rd_T101 l ((i : Nat) : Int)).f0.f0)) (fun _ => rfl) (.int .i64 (rd_T101 l ((i : Nat) : Int)).f0.f1)) (fun _ => rfl) (.bool (rd_T101 l ((i : Nat) : Int)).f1)) (fun k hk e => by subst e; have := hOlt k hk; have := hG1 rfl; omega)), (Below.setCell (Below.setCell (Below.setCell hHB (hG1 rfl) (.int .i64 (rd_T101 l ((i : Nat) : Int)).f0.f0)) (hG1 rfl) (.int .i64 (rd_T101 l ((i : Nat) : Int)).f0.f1)) (hG1 rfl) (.bool (rd_T101 l ((i : Nat) : Int)).f1))⟩)
     simp [go_sem, hu, hu2, blk_cell (hHA rfl) 0, blk_cell (hHA rfl) 1, blk_cell (hHA rfl) 2, blk_frozen (hHA rfl) 0, blk_frozen (hHA rfl) 1, blk_frozen (hHA rfl) 2]
    ·
     simp only [List.getElem?_toArray, List.getElem?_cons_succ, List.getElem?_cons_zero, Option.some.injEq] at ho
     subst ho
     replace hf : b24 = false := hf
     have d0 : b0 = true := hd ⟨0, .phase⟩ (by simp) rfl
     have d1 : b1 = true := hd ⟨1, .phase⟩ (by simp) rfl
     have d2 : b2 = true := hd ⟨2, .phase⟩ (by simp) rfl
     have d3 : b3 = true := hd ⟨3, .phase⟩ (by simp) rfl
     have d4 : b4 = true := hd ⟨4, .phase⟩ (by simp) rfl
     have d5 : b5 = true := hd ⟨5, .phase⟩ (by simp) rfl
     have d6 : b6 = true := hd ⟨6, .phase⟩ (by simp) rfl
     have d7 : b7 = true := hd ⟨7, .phase⟩ (by simp) rfl
     have d8 : b8 = true := hd ⟨8, .phase⟩ (by simp) rfl
     have d9 : b9 = true := hd ⟨9, .phase⟩ (by simp) rfl
     have d10 : b10 = true := hd ⟨10, .phase⟩ (by simp) rfl
     have d11 : b11 = true := hd ⟨11, .data⟩ (by simp) rfl
     have d20 : b20 = true := hd ⟨20, .phase⟩ (by simp) rfl
     have d21 : b21 = true := hd ⟨21, .data⟩ (by simp) rfl
     have d22 : b22 = true := hd ⟨22, .phase⟩ (by simp) rfl
     have d23 : b23 = true := hd ⟨23, .chain⟩ (by simp) rfl
     subst d0
     subst d1
     subst d2
     subst d3
     subst d4
     subst d5
     subst d6
     subst d7
     subst d8
     subst d9
     subst d10
     subst d11
     subst d20
     subst d21
     subst d22
     subst d23
     subst hf
     refine Go.Proofs.YtbmklpcheopgoaaReg.op_skip ho2 rfl (w1 := (((W'.setCell ⟨gC, 0, none⟩ (.int .i64 (rd_T101 l ((j1 : Nat) : Int)).f0.f0)).setCell ⟨gC, 1, none⟩ (.int .i64 (rd_T101 l ((j1 : Nat) : Int)).f0.f1)).setCell ⟨gC, 2, none⟩ (.bool (rd_T101 l ((j1 : Nat) : Int)).f1))) ?_ (hK _ _ ⟨⟨true, true, true, true, true, true, true, true, true, true, true, true, b12, b13, b14, b15, b16, b17, b18, b19, true, true, true, true, true, b25, gA, gC, gB⟩, rfl, rfl, (fun _ => rfl), (fun _ => rfl), (fun _ => rfl), (fun _ => rfl), (fun _ => rfl), (fun _ => rfl), (fun _ => rfl), (fun _ => rfl), (fun _ => rfl), (fun _ => Chg.heap (Chg.setCell (p := ⟨gC, 2, none⟩) (Chg.setCell (p := ⟨gC, 1, none⟩) (Chg.setCell (p := ⟨gC, 0, none⟩) (Chg.refl (fun b => b = gC) W') (fun _ => rfl) (.int .i64 (rd_T101 l ((j1 : Nat) : Int)).f0.f0)) (fun _ => rfl) (.int .i64 (rd_T101 l ((j1 : Nat) : Int)).f0.f1)) (fun _ => rfl) (.bool (rd_T101 l ((j1 : Nat) : Int)).f1)) (hHA rfl) (fun e => hN1 rfl rfl e)), (fun _ => (blk_put (blk_put (blk_put (hHC rfl) 0 (.int .i64 (rd_T101 l ((j1 : Nat) : Int)).f0.f0) rfl) 1 (.int .i64 (rd_T101 l ((j1 : Nat) : Int)).f0.f1) rfl) 2 (.bool (rd_T101 l ((j1 : Nat) : Int)).f1) rfl)), (fun _ => Chg.heap (Chg.setCell (p := ⟨gC, 2, none⟩) (Chg.setCell (p := ⟨gC, 1, none⟩) (Chg.setCell (p := ⟨gC, 0, none⟩) (Chg.refl (fun b => b = gC) W') (fun _ => rfl) (.int .i64 (rd_T101 l ((j1 : Nat) : Int)).f0.f0)) (fun _ => rfl) (.int .i64 (rd_T101 l ((j1 : Nat) : Int)).f0.f1)) (fun _ => rfl) (.bool (rd_T101 l ((j1 : Nat) : Int)).f1)) (hHD rfl) (fun e => hN3 rfl rfl e.symm)), hN1, hN2, hN3, hG1, hG2, hG3, (R_chg hHO (Chg.setCell (p := ⟨gC, 2, none⟩) (Chg.setCell (p := ⟨gC, 1, none⟩) (Chg.setCell (p := ⟨gC, 0, none⟩) (Chg.refl (fun b => b = gC) W') (fun _ => rfl) (.int .i64 (rd_T101 l ((j1 : Nat) : Int)).f0.f0)) (fun _ => rfl) (.int .i64 (rd_T101 l ((j1 : Nat) : Int)).f0.f1)) (fun _ => rfl) (.bool (rd_T101 l ((j1 : Nat) : Int)).f1)) (fun k hk e => by subst e; have := hOlt k hk; have := hG2 rfl; omega)), (Below.setCell (Below.setCell (Below.setCell hHB (hG2 rfl) (.int .i64 (rd_T101 l ((j1 : Nat) : Int)).f0.f0)) (hG2 rfl) (.int .i64 (rd_T101 l ((j1 : Nat) : Int)).f0.f1)) (hG2 rfl) (.bool (rd_T101 l ((j1 : Nat) : Int)).f1))⟩)
     simp [go_sem, hu, hu2, blk_cell (hHC rfl) 0, blk_cell (hHC rfl) 1, blk_cell (hHC rfl) 2, blk_frozen (hHC rfl) 0, blk_frozen (hHC rfl) 1, blk_frozen (hHC rfl) 2]
    ·
     simp only [List.getElem?_toArray, List.getElem?_cons_succ, List.getElem?_cons_zero, Option.some.injEq] at ho
     subst ho
     replace hf : b25 = false := hf
     have d0 : b0 = true := hd ⟨0, .phase⟩ (by simp) rfl
     have d1 : b1 = true := hd ⟨1, .phase⟩ (by simp) rfl
     have d2 : b2 = true := hd ⟨2, .phase⟩ (by simp) rfl
     have d3 : b3 = true := hd ⟨3, .phase⟩ (by simp) rfl
     have d4 : b4 = true := hd ⟨4, .phase⟩ (by simp) rfl
     have d5 : b5 = true := hd ⟨5, .phase⟩ (by simp) rfl
     have d6 : b6 = true := hd ⟨6, .phase⟩ (by simp) rfl
     have d7 : b7 = true := hd ⟨7, .phase⟩ (by simp) rfl
     have d8 : b8 = true := hd ⟨8, .phase⟩ (by simp) rfl
     have d9 : b9 = true := hd ⟨9, .phase⟩ (by simp) rfl
     have d10 : b10 = true := hd ⟨10, .phase⟩ (by simp) rfl
     have d11 : b11 = true := hd ⟨11, .phase⟩ (by simp) rfl
     have d12 : b12 = true := hd ⟨12, .phase⟩ (by simp) rfl
     have d13 : b13 = true := hd ⟨13, .phase⟩ (by simp) rfl
     have d14 : b14 = true := hd ⟨14, .phase⟩ (by simp) rfl
     have d15 : b15 = true := hd ⟨15, .phase⟩ (by simp) rfl
     have d16 : b16 = true := hd ⟨16, .phase⟩ (by simp) rfl
     have d17 : b17 = true := hd ⟨17, .phase⟩ (by simp) rfl
     have d18 : b18 = true := hd ⟨18, .phase⟩ (by simp) rfl
     have d19 : b19 = true := hd ⟨19, .data⟩ (by simp) rfl
     have d20 : b20 = true := hd ⟨20, .phase⟩ (by simp) rfl
     have d21 : b21 = true := hd ⟨21, .phase⟩ (by simp) rfl
     have d22 : b22 = true := hd ⟨22, .data⟩ (by simp) rfl
     have d23 : b23 = true := hd ⟨23, .phase⟩ (by simp) rfl
     have d24 : b24 = true := hd ⟨24, .chain⟩ (by simp) rfl
     subst d0
     subst d1
     subst d2
     subst d3
     subst d4
     subst d5
     subst d6
     subst d7
     subst d8
     subst d9
     subst d10
     subst d11
     subst d12
     subst d13
     subst d14
     subst d15
     subst d16
     subst d17
     subst d18
     subst d19
     subst d20
     subst d21
     subst d22
     subst d23
     subst d24
     subst hf
     refine Go.Proofs.YtbmklpcheopgoaaReg.op_skip ho2 rfl (w1 := (((W'.setCell ⟨gB, 0, none⟩ (.int .i64 (rd_T101 l ((j2 : Nat) : Int)).f0.f0)).setCell ⟨gB, 1, none⟩ (.int .i64 (rd_T101 l ((j2 : Nat) : Int)).f0.f1)).setCell ⟨gB, 2, none⟩ (.bool (rd_T101 l ((j2 : Nat) : Int)).f1))) ?_ (hK _ _ ⟨⟨true, true, true, true, true, true, true, true, true, true, true, true, true, true, true, true, true, true, true, true, true, true, true, true, true, true, gA, gC, gB⟩, rfl, rfl, (fun _ => rfl), (fun _ => rfl), (fun _ => rfl), (fun _ => rfl), (fun _ => rfl), (fun _ => rfl), (fun _ => rfl), (fun _ => rfl), (fun _ => rfl), (fun _ => Chg.heap (Chg.setCell (p := ⟨gB, 2, none⟩) (Chg.setCell (p := ⟨gB, 1, none⟩) (Chg.setCell (p := ⟨gB, 0, none⟩) (Chg.refl (fun b => b = gB) W') (fun _ => rfl) (.int .i64 (rd_T101 l ((j2 : Nat) : Int)).f0.f0)) (fun _ => rfl) (.int .i64 (rd_T101 l ((j2 : Nat) : Int)).f0.f1)) (fun _ => rfl) (.bool (rd_T101 l ((j2 : Nat) : Int)).f1)) (hHA rfl) (fun e => hN2 rfl rfl e)), (fun _ => Chg.heap (Chg.setCell (p := ⟨gB, 2, none⟩) (Chg.setCell (p := ⟨gB, 1, none⟩) (Chg.setCell (p := ⟨gB, 0, none⟩) (Chg.refl (fun b => b = gB) W') (fun _ => rfl) (.int .i64 (rd_T101 l ((j2 : Nat) : Int)).f0.f0)) (fun _ => rfl) (.int .i64 (rd_T101 l ((j2 : Nat) : Int)).f0.f1)) (fun _ => rfl) (.bool (rd_T101 l ((j2 : Nat) : Int)).f1)) (hHC rfl) (fun e => hN3 rfl rfl e)), (fun _ => (blk_put (blk_put (blk_put (hHD rfl) 0 (.int .i64 (rd_T101 l ((j2 : Nat) : Int)).f0.f0) rfl) 1 (.int .i64 (rd_T101 l ((j2 : Nat) : Int)).f0.f1) rfl) 2 (.bool (rd_T101 l ((j2 : Nat) : Int)).f1) rfl)), hN1, hN2, hN3, hG1, hG2, hG3, (R_chg hHO (Chg.setCell (p := ⟨gB, 2, none⟩) (Chg.setCell (p := ⟨gB, 1, none⟩) (Chg.setCell (p := ⟨gB, 0, none⟩) (Chg.refl (fun b => b = gB) W') (fun _ => rfl) (.int .i64 (rd_T101 l ((j2 : Nat) : Int)).f0.f0)) (fun _ => rfl) (.int .i64 (rd_T101 l ((j2 : Nat) : Int)).f0.f1)) (fun _ => rfl) (.bool (rd_T101 l ((j2 : Nat) : Int)).f1)) (fun k hk e => by subst e; have := hOlt k hk; have := hG3 rfl; omega)), (Below.setCell (Below.setCell (Below.setCell hHB (hG3 rfl) (.int .i64 (rd_T101 l ((j2 : Nat) : Int)).f0.f0)) (hG3 rfl) (.int .i64 (rd_T101 l ((j2 : Nat) : Int)).f0.f1)) (hG3 rfl) (.bool (rd_T101 l ((j2 : Nat) : Int)).f1))⟩)
     simp [go_sem, hu, hu2, blk_cell (hHD rfl) 0, blk_cell (hHD rfl) 1, blk_cell (hHD rfl) 2, blk_frozen (hHD rfl) 0, blk_frozen (hHD rfl) 1, blk_frozen (hHD rfl) 2]
   ·
    rintro lst a W' ⟨⟨b0, b1, b2, b3, b4, b5, b6, b7, b8, b9, b10, b11, b12, b13, b14, b15, b16, b17, b18, b19, b20, b21, b22, b23, b24, b25, gA, gC, gB⟩, rfl, rfl, k0, k1, k2, k3, k4, k5, k6, k7, k8, hHA, hHC, hHD, hN1, hN2, hN3, hG1, hG2, hG3, hHO, hHB⟩ hall
    dsimp only at k0 k1 k2 k3 k4 k5 k6 k7 k8 hHA hHC hHD hN1 hN2 hN3 hG1 hG2 hG3 hHO hHB
    have a0 : b0 = true := hall 0 (by decide)
    have a1 : b1 = true := hall 1 (by decide)
    have a2 : b2 = true := hall 2 (by decide)
    have a3 : b3 = true := hall 3 (by decide)
    have a4 : b4 = true := hall 4 (by decide)
    have a5 : b5 = true := hall 5 (by decide)
    have a6 : b6 = true := hall 6 (by decide)
    have a7 : b7 = true := hall 7 (by decide)
    have a8 : b8 = true := hall 8 (by decide)
    have a9 : b9 = true := hall 9 (by decide)
    have a10 : b10 = true := hall 10 (by decide)
    have a11 : b11 = true := hall 11 (by decide)
    have a12 : b12 = true := hall 12 (by decide)
    have a13 : b13 = true := hall 13 (by decide)
    have a14 : b14 = true := hall 14 (by decide)
    have a15 : b15 = true := hall 15 (by decide)
    have a16 : b16 = true := hall 16 (by decide)
    have a17 : b17 = true := hall 17 (by decide)
    have a18 : b18 = true := hall 18 (by decide)
    have a19 : b19 = true := hall 19 (by decide)
    have a20 : b20 = true := hall 20 (by decide)
    have a21 : b21 = true := hall 21 (by decide)
    have a22 : b22 = true := hall 22 (by decide)
    have a23 : b23 = true := hall 23 (by decide)
    have a24 : b24 = true := hall 24 (by decide)
    have a25 : b25 = true := hall 25 (by decide)
    subst a0 a1 a2 a3 a4 a5 a6 a7 a8 a9 a10 a11 a12 a13 a14 a15 a16 a17 a18 a19 a20 a21 a22 a23 a24 a25
    clear k0 k1 k2 k3 k4 k5 k6 k7 k8
    clear hall
    have HA : W'.heap[gA]? = some (.cells #[cond true (.int .i64 (rd_T101 l ((i : Nat) : Int)).f0.f0) (.int .i64 0), cond true (.int .i64 (rd_T101 l ((i : Nat) : Int)).f0.f1) (.int .i64 0), cond true (.bool (rd_T101 l ((i : Nat) : Int)).f1) (.bool false)] 101 (0, 0)) := hHA rfl
    have HC : W'.heap[gC]? = some (.cells #[cond true (.int .i64 (rd_T101 l ((j1 : Nat) : Int)).f0.f0) (.int .i64 0), cond true (.int .i64 (rd_T101 l ((j1 : Nat) : Int)).f0.f1) (.int .i64 0), cond true (.bool (rd_T101 l ((j1 : Nat) : Int)).f1) (.bool false)] 101 (0, 0)) := hHC rfl
    have HD : W'.heap[gB]? = some (.cells #[cond true (.int .i64 (rd_T101 l ((j2 : Nat) : Int)).f0.f0) (.int .i64 0), cond true (.int .i64 (rd_T101 l ((j2 : Nat) : Int)).f0.f1) (.int .i64 0), cond true (.bool (rd_T101 l ((j2 : Nat) : Int)).f1) (.bool false)] 101 (0, 0)) := hHD rfl
    have N1 : gA ≠ gC := hN1 rfl rfl
    have N2 : gA ≠ gB := hN2 rfl rfl
    have N3 : gC ≠ gB := hN3 rfl rfl
    have G1 : wr.heap.size ≤ gA := hG1 rfl
    have G2 : wr.heap.size ≤ gC := hG2 rfl
    have G3 : wr.heap.size ≤ gB := hG3 rfl
    have HO : Kd.R k52 52 W' w.heap.size (Own1 (.slice Ao out.length co)) (.slice Ao out.length co) out := hHO
    have HB : Below wr.heap.size wr W' := hHB
    clear hHA hHC hHD hN1 hN2 hN3 hG1 hG2 hG3 hHO hHB
    simp only [cond_true]
    have hBw : Below w.heap.size w W' := HB_.out.trans (HB.mono HB_.out.size)
    have g0 := blk_cell HC 0
    have g1 := blk_cell HC 1
    have g2 := blk_cell HC 2
    simp only [cond_true] at g0 g1 g2 HA HC HD
    simp at g0 g1 g2
    clear fa0 fa1 fa2 fc0 fc1 fc2 fb0 fb1 fb2
    have HOO := Lib.hid HO
    have hE := Lib.hid (And.intro hBw HG)
    have hOl2 : ∀ k, (Value.slice Ao out.length co).ownBlock = some k → k < wr.heap.size := hOlt
    clear HB hBw HG hOlt HO
    cases hon : (rd_T101 l ((j1 : Nat) : Int)).f1 with
    | true =>
     obtain ⟨v1, w1, hrun, hR1, hg1, hat⟩ := run_append1 (P := Try.prog) (ty := 42) k52 (W := W'.alloc (.cells #[.int .i64 (rd_T101 l ((j1 : Nat) : Int)).f0.f0, .int .i64 (rd_T101 l ((j1 : Nat) : Int)).f0.f1] 52)) w.heap.size Try.underlying42 info_pt2 rfl (by decide) (by decide) (.slice Ao out.length co) out (rd_T101 l ((j1 : Nat) : Int)).f0 [.int .i64 (rd_T101 l ((j1 : Nat) : Int)).f0.f0, .int .i64 (rd_T101 l ((j1 : Nat) : Int)).f0.f1] (fun _ => True) (fun _ => False) ⟨W'.heap.size, 0, none⟩ 1
      (fun j u hj => by rw [add_plain, ((Blks.nil W').alloc _).cell 0 rfl j]; simpa using hj) (k52_mkM _ _ _ _) (fun _ hk => hk.elim) (fun _ _ => trivial) (R_all (R_chg HOO.out ((Chg.refl (fun _ => False) _).alloc _) (fun _ _ => id))) (by have := hE.out.1.size; simp; omega) (by omega)
     have hR1 := R_own1 flat_pt2 hR1
     have hB1 := pw_below_grown (hE.out.1.alloc hE.out.1.size _) _ (hE.out.1.alloc hE.out.1.size _).size hg1 (fun k hk => Kd.R_base HOO.out k hk)
     have hJ := Lib.hid (And.intro hj1 hj2)
     have hRR := Lib.hid (And.intro hR1 hB1)
     clear hj1 hj2 hR1 hB1
     go_wp2_with (refine app_list rfl rfl rfl rfl hrun ?_)
     refine ⟨⟨i + 1, out ++ [(rd_T101 l ((j1 : Nat) : Int)).f0], by omega, by simp, by simp, by simp; omega, ⟨?_, hRR.out.1, hRR.out.2⟩⟩, by simp [intOf]; omega⟩
     rw [← hE.out.2, rowGo_on l i out hlt (by rw [hJ.out.1]; exact hon), hJ.out.1]
    | false =>
     have hB3 : Blks [(gA, .cells #[.int .i64 (rd_T101 l ((i : Nat) : Int)).f0.f0, .int .i64 (rd_T101 l ((i : Nat) : Int)).f0.f1, .bool (rd_T101 l ((i : Nat) : Int)).f1] 101 (0, 0)), (gC, .cells #[.int .i64 (rd_T101 l ((j1 : Nat) : Int)).f0.f0, .int .i64 (rd_T101 l ((j1 : Nat) : Int)).f0.f1, .bool (rd_T101 l ((j1 : Nat) : Int)).f1] 101 (0, 0)), (gB, .cells #[.int .i64 (rd_T101 l ((j2 : Nat) : Int)).f0.f0, .int .i64 (rd_T101 l ((j2 : Nat) : Int)).f0.f1, .bool (rd_T101 l ((j2 : Nat) : Int)).f1] 101 (0, 0))] W' := (((Blks.nil W').add HD (by simp)).add HC (by simpa using N3)).add HA (by simp; exact ⟨N1, N2⟩)
     have hJ := Lib.hid (And.intro hj1 hj2)
     clear hj1 hj2 HA HC HD g0 g1
     have hB3 := Lib.hid hB3
     have hons := Lib.hid hon
     go_wp2
     go_loopw [3, 8] (fun v3 v8 wr2 => ∃ m : Nat, m ≤ 8 ∧ v8 = .int .i64 ((1 + m : Nat) : Int) ∧ Aside0 (Kd.R k52 52 wr2 w.heap.size (Own1 v3) v3 (out ++ curveK l i m) ∧ Blks [(gA, .cells #[.int .i64 (rd_T101 l ((i : Nat) : Int)).f0.f0, .int .i64 (rd_T101 l ((i : Nat) : Int)).f0.f1, .bool (rd_T101 l ((i : Nat) : Int)).f1] 101 (0, 0)), (gC, .cells #[.int .i64 (rd_T101 l ((j1 : Nat) : Int)).f0.f0, .int .i64 (rd_T101 l ((j1 : Nat) : Int)).f0.f1, .bool (rd_T101 l ((j1 : Nat) : Int)).f1] 101 (0, 0)), (gB, .cells #[.int .i64 (rd_T101 l ((j2 : Nat) : Int)).f0.f0, .int .i64 (rd_T101 l ((j2 : Nat) : Int)).f0.f1, .bool (rd_T101 l ((j2 : Nat) : Int)).f1] 101 (0, 0))] wr2 ∧ Below w.heap.size w wr2))
      (fun _ v8 _ => 10 - (intOf v8).toNat)
     case atStart => exact ⟨0, by omega, rfl, ⟨by simpa [curveK] using HOO.out, hB3.out, hE.out.1⟩⟩
     case round =>
      obtain ⟨m, hm, rfl, ⟨HO, HB, HW⟩⟩ := hrel
      have hlen2 : (out ++ curveK l i m).length ≤ 9 + 8 * i := by rw [List.length_append, curveK_len]; omega
      by_cases hlt8 : m < 8
      ·
       have hd8 : decide (1 + (m : Int) ≤ 8) = true := by simp; omega
       have hcv : curveAt l i (1 + m) = ⟨atV ((1 + m : Nat) : Int) (rd_T101 l ((i : Nat) : Int)).f0.f0 (rd_T101 l ((j1 : Nat) : Int)).f0.f0 (rd_T101 l ((j2 : Nat) : Int)).f0.f0, atV ((1 + m : Nat) : Int) (rd_T101 l ((i : Nat) : Int)).f0.f1 (rd_T101 l ((j1 : Nat) : Int)).f0.f1 (rd_T101 l ((j2 : Nat) : Int)).f0.f1⟩ := by unfold curveAt; rw [hJ.out.1, hJ.out.2]
       have hks := curveK_succ l i m
       rw [hcv] at hks
       have HKS := Lib.hid hks
       clear hks hcv
       obtain ⟨o2, ho2⟩ : ∃ o2, out ++ curveK l i m = o2 := ⟨_, rfl⟩
       rw [ho2] at HO hlen2
       have HO2 := Lib.hid ho2
       clear ho2
       obtain ⟨Ao2, co2, hv3⟩ := Kd.R_slice HO
       subst hv3
       have hRow25 : ∀ {W2 : World}, Blks [(gA, .cells #[.int .i64 (rd_T101 l ((i : Nat) : Int)).f0.f0, .int .i64 (rd_T101 l ((i : Nat) : Int)).f0.f1, .bool (rd_T101 l ((i : Nat) : Int)).f1] 101 (0, 0)), (gC, .cells #[.int .i64 (rd_T101 l ((j1 : Nat) : Int)).f0.f0, .int .i64 (rd_T101 l ((j1 : Nat) : Int)).f0.f1, .bool (rd_T101 l ((j1 : Nat) : Int)).f1] 101 (0, 0)), (gB, .cells #[.int .i64 (rd_T101 l ((j2 : Nat) : Int)).f0.f0, .int .i64 (rd_T101 l ((j2 : Nat) : Int)).f0.f1, .bool (rd_T101 l ((j2 : Nat) : Int)).f1] 101 (0, 0))] W2 → Kd.R k52 52 W2 w.heap.size (Own1 (.slice Ao2 o2.length co2)) (.slice Ao2 o2.length co2) o2 → ∀ b, b ∈ ([gA, gC, gB] : List Nat) → (Value.slice Ao2 o2.length co2).ownBlock = some b → False := fun hb ho => row_apart hb (by simp) ho
       have HHO := Lib.hid HO
       have HHB := Lib.hid HB
       have HHW := Lib.hid HW
       clear HO HB HW
       go_wp2
       have HO := HHO.out
       have HB := HHB.out
       have HW := HHW.out
       clear HHO HHB HHW
       refine Go.Proofs.YtbmklpcheopgoaaReg.reg_inv (by rfl) [0, 1, 2, 3, 4, 5, 6, 7, 8, 9, 10, 11, 12, 13, 14, 15, 16, 17, 18, 19, 20, 21, 22, 23, 24, 25, 26] (by kernel_rfl) (by kernel_rfl)
        (fun lst a W' => ∃ d : RowReg11, lst = #[d.b0, d.b1, d.b2, d.b3, d.b4, d.b5, d.b6, d.b7, d.b8, d.b9, d.b10, d.b11, d.b12, d.b13, d.b14, d.b15, d.b16, d.b17, d.b18, d.b19, d.b20, d.b21, d.b22, d.b23, d.b24, d.b25, d.b26] ∧ a = ⟨#[.slice (some ad) l.length c0, undef, .slice none 0 0, (cond d.b26 d.V1 (.slice Ao2 o2.length co2)), .int .i64 i, .pointer (some ⟨gA, 0, none⟩), .pointer (some ⟨gC, 0, none⟩), .pointer (some ⟨gB, 0, none⟩), .int .i64 (((1 + m : Nat) : Int)), .slice (some ad) l.length c0, .pointer (some ad), .pointer (some ad), .agg #[.int .i64 (rd_T101 l 0).f0.f0, .int .i64 (rd_T101 l 0).f0.f1], .slice (some ⟨w.heap.size, 0, none⟩) 1 1, .int .i64 i, .slice (some ad) l.length c0, .int .i64 l.length, .bool true, u18, u19, .slice (some ad) l.length c0, .int .i64 i, .pointer (some (ad.add (i * 3))), .agg #[.int .i64 (rd_T101 l ((i : Nat) : Int)).f0.f0, .int .i64 (rd_T101 l ((i : Nat) : Int)).f0.f1, .bool (rd_T101 l ((i : Nat) : Int)).f1], .slice (some ad) l.length c0, .int .i64 i, .int .i64 ((i : Int) + 1), .slice (some ad) l.length c0, .int .i64 l.length, .int .i64 j1, .pointer (some (ad.add (j1 * 3))), .agg #[.int .i64 (rd_T101 l ((j1 : Nat) : Int)).f0.f0, .int .i64 (rd_T101 l ((j1 : Nat) : Int)).f0.f1, .bool false], .slice (some ad) l.length c0, .int .i64 i, .int .i64 ((i : Int) + 2), .slice (some ad) l.length c0, .int .i64 l.length, .int .i64 j2, .pointer (some (ad.add (j2 * 3))), .agg #[.int .i64 (rd_T101 l ((j2 : Nat) : Int)).f0.f0, .int .i64 (rd_T101 l ((j2 : Nat) : Int)).f0.f1, .bool (rd_T101 l ((j2 : Nat) : Int)).f1], .pointer (some ⟨gC, 2, none⟩), .bool false, u42, u43, u44, u45, u46, .int .i64 (((1 + m : Nat) : Int)), .bool true, u49, u50, (cond d.b0 (.slice Ao2 o2.length co2) u51), (cond d.b1 (.int .i64 (((1 + m : Nat) : Int))) u52), (cond d.b2 (.pointer (some ⟨gA, 0, none⟩)) u53), (cond d.b3 (.pointer (some ⟨gA, 0, none⟩)) u54), (cond d.b4 (.int .i64 ((rd_T101 l ((i : Nat) : Int)).f0.f0)) u55), (cond d.b5 (.pointer (some ⟨gC, 0, none⟩)) u56), (cond d.b6 (.pointer (some ⟨gC, 0, none⟩)) u57), (cond d.b7 (.int .i64 ((rd_T101 l ((j1 : Nat) : Int)).f0.f0)) u58), (cond d.b8 (.pointer (some ⟨gB, 0, none⟩)) u59), (cond d.b9 (.pointer (some ⟨gB, 0, none⟩)) u60), (cond d.b10 (.int .i64 ((rd_T101 l ((j2 : Nat) : Int)).f0.f0)) u61), (cond d.b11 (.int .i64 ((atV ((1 + m : Nat) : Int) (rd_T101 l ((i : Nat) : Int)).f0.f0 (rd_T101 l ((j1 : Nat) : Int)).f0.f0 (rd_T101 l ((j2 : Nat) : Int)).f0.f0))) u62), (cond d.b12 (.int .i64 (((1 + m : Nat) : Int))) u63), (cond d.b13 (.pointer (some ⟨gA, 0, none⟩)) u64), (cond d.b14 (.pointer (some ⟨gA, 1, none⟩)) u65), (cond d.b15 (.int .i64 ((rd_T101 l ((i : Nat) : Int)).f0.f1)) u66), (cond d.b16 (.pointer (some ⟨gC, 0, none⟩)) u67), (cond d.b17 (.pointer (some ⟨gC, 1, none⟩)) u68), (cond d.b18 (.int .i64 ((rd_T101 l ((j1 : Nat) : Int)).f0.f1)) u69), (cond d.b19 (.pointer (some ⟨gB, 0, none⟩)) u70), (cond d.b20 (.pointer (some ⟨gB, 1, none⟩)) u71), (cond d.b21 (.int .i64 ((rd_T101 l ((j2 : Nat) : Int)).f0.f1)) u72), (cond d.b22 (.int .i64 ((atV ((1 + m : Nat) : Int) (rd_T101 l ((i : Nat) : Int)).f0.f1 (rd_T101 l ((j1 : Nat) : Int)).f0.f1 (rd_T101 l ((j2 : Nat) : Int)).f0.f1))) u73), (cond d.b23 (.agg #[.int .i64 ((atV ((1 + m : Nat) : Int) (rd_T101 l ((i : Nat) : Int)).f0.f0 (rd_T101 l ((j1 : Nat) : Int)).f0.f0 (rd_T101 l ((j2 : Nat) : Int)).f0.f0)), .int .i64 ((atV ((1 + m : Nat) : Int) (rd_T101 l ((i : Nat) : Int)).f0.f1 (rd_T101 l ((j1 : Nat) : Int)).f0.f1 (rd_T101 l ((j2 : Nat) : Int)).f0.f1))]) u74), (cond d.b24 (.slice (some ⟨d.gH, 0, none⟩) 1 1) u75), (cond d.b25 d.V1 u76), u77, u78, undef, undef, undef, undef, undef], []⟩ ∧ (d.b25 = true → d.b24 = true) ∧ (d.b26 = true → d.b0 = true) ∧ (d.b26 = true → d.b25 = true) ∧ (Blks [(gA, .cells #[.int .i64 (rd_T101 l ((i : Nat) : Int)).f0.f0, .int .i64 (rd_T101 l ((i : Nat) : Int)).f0.f1, .bool (rd_T101 l ((i : Nat) : Int)).f1] 101 (0, 0)), (gC, .cells #[.int .i64 (rd_T101 l ((j1 : Nat) : Int)).f0.f0, .int .i64 (rd_T101 l ((j1 : Nat) : Int)).f0.f1, .bool (rd_T101 l ((j1 : Nat) : Int)).f1] 101 (0, 0)), (gB, .cells #[.int .i64 (rd_T101 l ((j2 : Nat) : Int)).f0.f0, .int .i64 (rd_T101 l ((j2 : Nat) : Int)).f0.f1, .bool (rd_T101 l ((j2 : Nat) : Int)).f1] 101 (0, 0))] W') ∧ (Kd.R k52 52 W' w.heap.size (Own1 (cond d.b25 d.V1 (.slice Ao2 o2.length co2))) (cond d.b25 d.V1 (.slice Ao2 o2.length co2)) (cond d.b25 (o2 ++ [⟨(atV ((1 + m : Nat) : Int) (rd_T101 l ((i : Nat) : Int)).f0.f0 (rd_T101 l ((j1 : Nat) : Int)).f0.f0 (rd_T101 l ((j2 : Nat) : Int)).f0.f0), (atV ((1 + m : Nat) : Int) (rd_T101 l ((i : Nat) : Int)).f0.f1 (rd_T101 l ((j1 : Nat) : Int)).f0.f1 (rd_T101 l ((j2 : Nat) : Int)).f0.f1)⟩]) o2)) ∧ (d.b24 = true → d.b25 = false → W'.heap[d.gH]? = some (.cells #[.int .i64 ((atV ((1 + m : Nat) : Int) (rd_T101 l ((i : Nat) : Int)).f0.f0 (rd_T101 l ((j1 : Nat) : Int)).f0.f0 (rd_T101 l ((j2 : Nat) : Int)).f0.f0)), .int .i64 ((atV ((1 + m : Nat) : Int) (rd_T101 l ((i : Nat) : Int)).f0.f1 (rd_T101 l ((j1 : Nat) : Int)).f0.f1 (rd_T101 l ((j2 : Nat) : Int)).f0.f1))] 52 (0, 0))) ∧ (Below w.heap.size w W')) ?_ ?_ ?_ ?_
       ·
        rintro lst a W' ⟨d, rfl, _⟩
        rfl
       ·
        exact ⟨⟨false, false, false, false, false, false, false, false, false, false, false, false, false, false, false, false, false, false, false, false, false, false, false, false, false, false, false, 0, undef⟩, rfl, rfl, (fun h => Bool.noConfusion h), (fun h => Bool.noConfusion h), (fun h => Bool.noConfusion h), HB.drew, (R_chg HO ((Chg.refl (fun _ => False) _).drew) (fun _ _ => id)), (fun h => Bool.noConfusion h), (below_drew HW)⟩
       ·
        rintro lst a W' i o ⟨⟨b0, b1, b2, b3, b4, b5, b6, b7, b8, b9, b10, b11, b12, b13, b14, b15, b16, b17, b18, b19, b20, b21, b22, b23, b24, b25, b26, gH, V1⟩, rfl, rfl, k0, k1, k2, hHB, hHO, hHX, hHW⟩ ho hf hd K hK
        dsimp only at k0 k1 k2 hHB hHO hHX hHW
        have hi : i < 27 := (Array.getElem?_eq_some_iff.1 ho).1
        have ho2 := ho
        rcases (show i = 0 ∨ i = 1 ∨ i = 2 ∨ i = 3 ∨ i = 4 ∨ i = 5 ∨ i = 6 ∨ i = 7 ∨ i = 8 ∨ i = 9 ∨ i = 10 ∨ i = 11 ∨ i = 12 ∨ i = 13 ∨ i = 14 ∨ i = 15 ∨ i = 16 ∨ i = 17 ∨ i = 18 ∨ i = 19 ∨ i = 20 ∨ i = 21 ∨ i = 22 ∨ i = 23 ∨ i = 24 ∨ i = 25 ∨ i = 26 by omega) with rfl | rfl | rfl | rfl | rfl | rfl | rfl | rfl | rfl | rfl | rfl | rfl | rfl | rfl | rfl | rfl | rfl | rfl | rfl | rfl | rfl | rfl | rfl | rfl | rfl | rfl | rfl
        ·
         simp only [List.getElem?_toArray, List.getElem?_cons_succ, List.getElem?_cons_zero, Option.some.injEq] at ho
         subst ho
         replace hf : b0 = false := hf
         have n26 : b26 = false := Bool.eq_false_iff.mpr (fun h => absurd (k1 h) (by rw [hf]; decide))
         subst n26
         subst hf
         refine Go.Proofs.YtbmklpcheopgoaaReg.op_val ho2 rfl (v := .slice Ao2 o2.length co2) (w1 := W') ?_ (hK _ _ ⟨⟨true, b1, b2, b3, b4, b5, b6, b7, b8, b9, b10, b11, b12, b13, b14, b15, b16, b17, b18, b19, b20, b21, b22, b23, b24, b25, false, gH, V1⟩, rfl, rfl, (k0), (fun _ => rfl), (fun h => Bool.noConfusion h), hHB, hHO, hHX, hHW⟩)
         simp [go_sem, hu, hu2]
        ·
         simp only [List.getElem?_toArray, List.getElem?_cons_succ, List.getElem?_cons_zero, Option.some.injEq] at ho
         subst ho
         replace hf : b1 = false := hf
         subst hf
         refine Go.Proofs.YtbmklpcheopgoaaReg.op_val ho2 rfl (v := .int .i64 (((1 + m : Nat) : Int))) (w1 := W') ?_ (hK _ _ ⟨⟨b0, true, b2, b3, b4, b5, b6, b7, b8, b9, b10, b11, b12, b13, b14, b15, b16, b17, b18, b19, b20, b21, b22, b23, b24, b25, b26, gH, V1⟩, rfl, rfl, (k0), (k1), (k2), hHB, hHO, hHX, hHW⟩)
         simp [go_sem, hu, hu2]
        ·
         simp only [List.getElem?_toArray, List.getElem?_cons_succ, List.getElem?_cons_zero, Option.some.injEq] at ho
         subst ho
         replace hf : b2 = false := hf
         subst hf
         refine Go.Proofs.YtbmklpcheopgoaaReg.op_val ho2 rfl (v := .pointer (some ⟨gA, 0, none⟩)) (w1 := W') ?_ (hK _ _ ⟨⟨b0, b1, true, b3, b4, b5, b6, b7, b8, b9, b10, b11, b12, b13, b14, b15, b16, b17, b18, b19, b20, b21, b22, b23, b24, b25, b26, gH, V1⟩, rfl, rfl, (k0), (k1), (k2), hHB, hHO, hHX, hHW⟩)
         simp [go_sem, hu, hu2]
        ·
         simp only [List.getElem?_toArray, List.getElem?_cons_succ, List.getElem?_cons_zero, Option.some.injEq] at ho
         subst ho
         replace hf : b3 = false := hf
         have d2 : b2 = true := hd ⟨2, .data⟩ (by simp) rfl
         subst d2
         subst hf
         refine Go.Proofs.YtbmklpcheopgoaaReg.op_val ho2 rfl (v := .pointer (some ⟨gA, 0, none⟩)) (w1 := W') ?_ (hK _ _ ⟨⟨b0, b1, true, true, b4, b5, b6, b7, b8, b9, b10, b11, b12, b13, b14, b15, b16, b17, b18, b19, b20, b21, b22, b23, b24, b25, b26, gH, V1⟩, rfl, rfl, (k0), (k1), (k2), hHB, hHO, hHX, hHW⟩)
         simp [go_sem, hu, hu2]
        ·
         simp only [List.getElem?_toArray, List.getElem?_cons_succ, List.getElem?_cons_zero, Option.some.injEq] at ho
         subst ho
         replace hf : b4 = false := hf
         have d3 : b3 = true := hd ⟨3, .data⟩ (by simp) rfl
         subst d3
         subst hf
         refine Go.Proofs.YtbmklpcheopgoaaReg.op_val ho2 rfl (v := .int .i64 ((rd_T101 l ((i : Nat) : Int)).f0.f0)) (w1 := W') ?_ (hK _ _ ⟨⟨b0, b1, b2, true, true, b5, b6, b7, b8, b9, b10, b11, b12, b13, b14, b15, b16, b17, b18, b19, b20, b21, b22, b23, b24, b25, b26, gH, V1⟩, rfl, rfl, (k0), (k1), (k2), hHB, hHO, hHX, hHW⟩)
         simp [go_sem, hu, hu2, (Blks.cell hHB 0 rfl 0)]
        ·
         simp only [List.getElem?_toArray, List.getElem?_cons_succ, List.getElem?_cons_zero, Option.some.injEq] at ho
         subst ho
         replace hf : b5 = false := hf
         subst hf
         refine Go.Proofs.YtbmklpcheopgoaaReg.op_val ho2 rfl (v := .pointer (some ⟨gC, 0, none⟩)) (w1 := W') ?_ (hK _ _ ⟨⟨b0, b1, b2, b3, b4, true, b6, b7, b8, b9, b10, b11, b12, b13, b14, b15, b16, b17, b18, b19, b20, b21, b22, b23, b24, b25, b26, gH, V1⟩, rfl, rfl, (k0), (k1), (k2), hHB, hHO, hHX, hHW⟩)
         simp [go_sem, hu, hu2]
        ·
         simp only [List.getElem?_toArray, List.getElem?_cons_succ, List.getElem?_cons_zero, Option.some.injEq] at ho
         subst ho
         replace hf : b6 = false := hf
         have d5 : b5 = true := hd ⟨5, .data⟩ (by simp) rfl
         subst d5
         subst hf
         refine Go.Proofs.YtbmklpcheopgoaaReg.op_val ho2 rfl (v := .pointer (some ⟨gC, 0, none⟩)) (w1 := W') ?_ (hK _ _ ⟨⟨b0, b1, b2, b3, b4, true, true, b7, b8, b9, b10, b11, b12, b13, b14, b15, b16, b17, b18, b19, b20, b21, b22, b23, b24, b25, b26, gH, V1⟩, rfl, rfl, (k0), (k1), (k2), hHB, hHO, hHX, hHW⟩)
         simp [go_sem, hu, hu2]
        ·
         simp only [List.getElem?_toArray, List.getElem?_cons_succ, List.getElem?_cons_zero, Option.some.injEq] at ho
         subst ho
         replace hf : b7 = false := hf
         have d6 : b6 = true := hd ⟨6, .data⟩ (by simp) rfl
         subst d6
         subst hf
         refine Go.Proofs.YtbmklpcheopgoaaReg.op_val ho2 rfl (v := .int .i64 ((rd_T101 l ((j1 : Nat) : Int)).f0.f0)) (w1 := W') ?_ (hK _ _ ⟨⟨b0, b1, b2, b3, b4, b5, true, true, b8, b9, b10, b11, b12, b13, b14, b15, b16, b17, b18, b19, b20, b21, b22, b23, b24, b25, b26, gH, V1⟩, rfl, rfl, (k0), (k1), (k2), hHB, hHO, hHX, hHW⟩)
         simp [go_sem, hu, hu2, (Blks.cell hHB 1 rfl 0)]
        ·
         simp only [List.getElem?_toArray, List.getElem?_cons_succ, List.getElem?_cons_zero, Option.some.injEq] at ho
         subst ho
         replace hf : b8 = false := hf
         subst hf
         refine Go.Proofs.YtbmklpcheopgoaaReg.op_val ho2 rfl (v := .pointer (some ⟨gB, 0, none⟩)) (w1 := W') ?_ (hK _ _ ⟨⟨b0, b1, b2, b3, b4, b5, b6, b7, true, b9, b10, b11, b12, b13, b14, b15, b16, b17, b18, b19, b20, b21, b22, b23, b24, b25, b26, gH, V1⟩, rfl, rfl, (k0), (k1), (k2), hHB, hHO, hHX, hHW⟩)
         simp [go_sem, hu, hu2]
        ·
         simp only [List.getElem?_toArray, List.getElem?_cons_succ, List.getElem?_cons_zero, Option.some.injEq] at ho
         subst ho
         replace hf : b9 = false := hf
         have d8 : b8 = true := hd ⟨8, .data⟩ (by simp) rfl
         subst d8
         subst hf
         refine Go.Proofs.YtbmklpcheopgoaaReg.op_val ho2 rfl (v := .pointer (some ⟨gB, 0, none⟩)) (w1 := W') ?_ (hK _ _ ⟨⟨b0, b1, b2, b3, b4, b5, b6, b7, true, true, b10, b11, b12, b13, b14, b15, b16, b17, b18, b19, b20, b21, b22, b23, b24, b25, b26, gH, V1⟩, rfl, rfl, (k0), (k1), (k2), hHB, hHO, hHX, hHW⟩)
         simp [go_sem, hu, hu2]
        ·
         simp only [List.getElem?_toArray, List.getElem?_cons_succ, List.getElem?_cons_zero, Option.some.injEq] at ho
         subst ho
         replace hf : b10 = false := hf
         have d9 : b9 = true := hd ⟨9, .data⟩ (by simp) rfl
         subst d9
         subst hf
         refine Go.Proofs.YtbmklpcheopgoaaReg.op_val ho2 rfl (v := .int .i64 ((rd_T101 l ((j2 : Nat) : Int)).f0.f0)) (w1 := W') ?_ (hK _ _ ⟨⟨b0, b1, b2, b3, b4, b5, b6, b7, b8, true, true, b11, b12, b13, b14, b15, b16, b17, b18, b19, b20, b21, b22, b23, b24, b25, b26, gH, V1⟩, rfl, rfl, (k0), (k1), (k2), hHB, hHO, hHX, hHW⟩)
         simp [go_sem, hu, hu2, (Blks.cell hHB 2 rfl 0)]
        ·
         simp only [List.getElem?_toArray, List.getElem?_cons_succ, List.getElem?_cons_zero, Option.some.injEq] at ho
         subst ho
         replace hf : b11 = false := hf
         have d1 : b1 = true := hd ⟨1, .data⟩ (by simp) rfl
         have d4 : b4 = true := hd ⟨4, .data⟩ (by simp) rfl
         have d7 : b7 = true := hd ⟨7, .data⟩ (by simp) rfl
         have d10 : b10 = true := hd ⟨10, .data⟩ (by simp) rfl
         subst d1
         subst d4
         subst d7
         subst d10
         subst hf
         refine Go.Proofs.YtbmklpcheopgoaaReg.op_wp ho2 rfl (op_call Try.func56 (by kernel_rfl) rfl #[.int .i64 (((1 + m : Nat) : Int)), .int .i64 ((rd_T101 l ((i : Nat) : Int)).f0.f0), .int .i64 ((rd_T101 l ((j1 : Nat) : Int)).f0.f0), .int .i64 ((rd_T101 l ((j2 : Nat) : Int)).f0.f0)] rfl (by simp only [List.map_toArray, List.map_cons, List.map_nil]; rfl) ?_)
         refine (outline_at.calls _ _ _ _ _ W' (atV_f _ _ _ _)).mono ?_
         rintro e1 W2 ⟨rfl, ⟨nd, rfl⟩⟩
         exact ⟨_, rfl, (hK _ _ ⟨⟨b0, true, b2, b3, true, b5, b6, true, b8, b9, true, true, b12, b13, b14, b15, b16, b17, b18, b19, b20, b21, b22, b23, b24, b25, b26, gH, V1⟩, rfl, rfl, (k0), (k1), (k2), (hHB.drewN nd), (R_chg hHO ((Chg.refl (fun _ => False) _).drewN nd) (fun _ _ => id)), (fun h1 h2 => kN (hHX h1 h2) nd), (bN hHW nd)⟩)⟩
        ·
         simp only [List.getElem?_toArray, List.getElem?_cons_succ, List.getElem?_cons_zero, Option.some.injEq] at ho
         subst ho
         replace hf : b12 = false := hf
         subst hf
         refine Go.Proofs.YtbmklpcheopgoaaReg.op_val ho2 rfl (v := .int .i64 (((1 + m : Nat) : Int))) (w1 := W') ?_ (hK _ _ ⟨⟨b0, b1, b2, b3, b4, b5, b6, b7, b8, b9, b10, b11, true, b13, b14, b15, b16, b17, b18, b19, b20, b21, b22, b23, b24, b25, b26, gH, V1⟩, rfl, rfl, (k0), (k1), (k2), hHB, hHO, hHX, hHW⟩)
         simp [go_sem, hu, hu2]
        ·
         simp only [List.getElem?_toArray, List.getElem?_cons_succ, List.getElem?_cons_zero, Option.some.injEq] at ho
         subst ho
         replace hf : b13 = false := hf
         subst hf
         refine Go.Proofs.YtbmklpcheopgoaaReg.op_val ho2 rfl (v := .pointer (some ⟨gA, 0, none⟩)) (w1 := W') ?_ (hK _ _ ⟨⟨b0, b1, b2, b3, b4, b5, b6, b7, b8, b9, b10, b11, b12, true, b14, b15, b16, b17, b18, b19, b20, b21, b22, b23, b24, b25, b26, gH, V1⟩, rfl, rfl, (k0), (k1), (k2), hHB, hHO, hHX, hHW⟩)
         simp [go_sem, hu, hu2]
        ·
         simp only [List.getElem?_toArray, List.getElem?_cons_succ, List.getElem?_cons_zero, Option.some.injEq] at ho
         subst ho
         replace hf : b14 = false := hf
         have d13 : b13 = true := hd ⟨13, .data⟩ (by simp) rfl
         subst d13
         subst hf
         refine Go.Proofs.YtbmklpcheopgoaaReg.op_val ho2 rfl (v := .pointer (some ⟨gA, 1, none⟩)) (w1 := W') ?_ (hK _ _ ⟨⟨b0, b1, b2, b3, b4, b5, b6, b7, b8, b9, b10, b11, b12, true, true, b15, b16, b17, b18, b19, b20, b21, b22, b23, b24, b25, b26, gH, V1⟩, rfl, rfl, (k0), (k1), (k2), hHB, hHO, hHX, hHW⟩)
         simp [go_sem, hu, hu2]
        ·
         simp only [List.getElem?_toArray, List.getElem?_cons_succ, List.getElem?_cons_zero, Option.some.injEq] at ho
         subst ho
         replace hf : b15 = false := hf
         have d14 : b14 = true := hd ⟨14, .data⟩ (by simp) rfl
         subst d14
         subst hf
         refine Go.Proofs.YtbmklpcheopgoaaReg.op_val ho2 rfl (v := .int .i64 ((rd_T101 l ((i : Nat) : Int)).f0.f1)) (w1 := W') ?_ (hK _ _ ⟨⟨b0, b1, b2, b3, b4, b5, b6, b7, b8, b9, b10, b11, b12, b13, true, true, b16, b17, b18, b19, b20, b21, b22, b23, b24, b25, b26, gH, V1⟩, rfl, rfl, (k0), (k1), (k2), hHB, hHO, hHX, hHW⟩)
         simp [go_sem, hu, hu2, (Blks.cell hHB 0 rfl 1)]
        ·
         simp only [List.getElem?_toArray, List.getElem?_cons_succ, List.getElem?_cons_zero, Option.some.injEq] at ho
         subst ho
         replace hf : b16 = false := hf
         subst hf
         refine Go.Proofs.YtbmklpcheopgoaaReg.op_val ho2 rfl (v := .pointer (some ⟨gC, 0, none⟩)) (w1 := W') ?_ (hK _ _ ⟨⟨b0, b1, b2, b3, b4, b5, b6, b7, b8, b9, b10, b11, b12, b13, b14, b15, true, b17, b18, b19, b20, b21, b22, b23, b24, b25, b26, gH, V1⟩, rfl, rfl, (k0), (k1), (k2), hHB, hHO, hHX, hHW⟩)
         simp [go_sem, hu, hu2]
        ·
         simp only [List.getElem?_toArray, List.getElem?_cons_succ, List.getElem?_cons_zero, Option.some.injEq] at ho
         subst ho
         replace hf : b17 = false := hf
         have d16 : b16 = true := hd ⟨16, .data⟩ (by simp) rfl
         subst d16
         subst hf
         refine Go.Proofs.YtbmklpcheopgoaaReg.op_val ho2 rfl (v := .pointer (some ⟨gC, 1, none⟩)) (w1 := W') ?_ (hK _ _ ⟨⟨b0, b1, b2, b3, b4, b5, b6, b7, b8, b9, b10, b11, b12, b13, b14, b15, true, true, b18, b19, b20, b21, b22, b23, b24, b25, b26, gH, V1⟩, rfl, rfl, (k0), (k1), (k2), hHB, hHO, hHX, hHW⟩)
         simp [go_sem, hu, hu2]
        ·
         simp only [List.getElem?_toArray, List.getElem?_cons_succ, List.getElem?_cons_zero, Option.some.injEq] at ho
         subst ho
         replace hf : b18 = false := hf
         have d17 : b17 = true := hd ⟨17, .data⟩ (by simp) rfl
         subst d17
         subst hf
         refine Go.Proofs.YtbmklpcheopgoaaReg.op_val ho2 rfl (v := .int .i64 ((rd_T101 l ((j1 : Nat) : Int)).f0.f1)) (w1 := W') ?_ (hK _ _ ⟨⟨b0, b1, b2, b3, b4, b5, b6, b7, b8, b9, b10, b11, b12, b13, b14, b15, b16, true, true, b19, b20, b21, b22, b23, b24, b25, b26, gH, V1⟩, rfl, rfl, (k0), (k1), (k2), hHB, hHO, hHX, hHW⟩)
         simp [go_sem, hu, hu2, (Blks.cell hHB 1 rfl 1)]
        ·
         simp only [List.getElem?_toArray, List.getElem?_cons_succ, List.getElem?_cons_zero, Option.some.injEq] at ho
         subst ho
         replace hf : b19 = false := hf
         subst hf
         refine Go.Proofs.YtbmklpcheopgoaaReg.op_val ho2 rfl (v := .pointer (some ⟨gB, 0, none⟩)) (w1 := W') ?_ (hK _ _ ⟨⟨b0, b1, b2, b3, b4, b5, b6, b7, b8, b9, b10, b11, b12, b13, b14, b15, b16, b17, b18, true, b20, b21, b22, b23, b24, b25, b26, gH, V1⟩, rfl, rfl, (k0), (k1), (k2), hHB, hHO, hHX, hHW⟩)
         simp [go_sem, hu, hu2]
        ·
         simp only [List.getElem?_toArray, List.getElem?_cons_succ, List.getElem?_cons_zero, Option.some.injEq] at ho
         subst ho
         replace hf : b20 = false := hf
         have d19 : b19 = true := hd ⟨19, .data⟩ (by simp) rfl
         subst d19
         subst hf
         refine Go.Proofs.YtbmklpcheopgoaaReg.op_val ho2 rfl (v := .pointer (some ⟨gB, 1, none⟩)) (w1 := W') ?_ (hK _ _ ⟨⟨b0, b1, b2, b3, b4, b5, b6, b7, b8, b9, b10, b11, b12, b13, b14, b15, b16, b17, b18, true, true, b21, b22, b23, b24, b25, b26, gH, V1⟩, rfl, rfl, (k0), (k1), (k2), hHB, hHO, hHX, hHW⟩)
         simp [go_sem, hu, hu2]
        ·
         simp only [List.getElem?_toArray, List.getElem?_cons_succ, List.getElem?_cons_zero, Option.some.injEq] at ho
         subst ho
         replace hf : b21 = false := hf
         have d20 : b20 = true := hd ⟨20, .data⟩ (by simp) rfl
         subst d20
         subst hf
         refine Go.Proofs.YtbmklpcheopgoaaReg.op_val ho2 rfl (v := .int .i64 ((rd_T101 l ((j2 : Nat) : Int)).f0.f1)) (w1 := W') ?_ (hK _ _ ⟨⟨b0, b1, b2, b3, b4, b5, b6, b7, b8, b9, b10, b11, b12, b13, b14, b15, b16, b17, b18, b19, true, true, b22, b23, b24, b25, b26, gH, V1⟩, rfl, rfl, (k0), (k1), (k2), hHB, hHO, hHX, hHW⟩)
         simp [go_sem, hu, hu2, (Blks.cell hHB 2 rfl 1)]
        ·
         simp only [List.getElem?_toArray, List.getElem?_cons_succ, List.getElem?_cons_zero, Option.some.injEq] at ho
         subst ho
         replace hf : b22 = false := hf
         have d11 : b11 = true := hd ⟨11, .chain⟩ (by simp) rfl
         have d12 : b12 = true := hd ⟨12, .data⟩ (by simp) rfl
         have d15 : b15 = true := hd ⟨15, .data⟩ (by simp) rfl
         have d18 : b18 = true := hd ⟨18, .data⟩ (by simp) rfl
         have d21 : b21 = true := hd ⟨21, .data⟩ (by simp) rfl
         subst d11
         subst d12
         subst d15
         subst d18
         subst d21
         subst hf
         refine Go.Proofs.YtbmklpcheopgoaaReg.op_wp ho2 rfl (op_call Try.func56 (by kernel_rfl) rfl #[.int .i64 (((1 + m : Nat) : Int)), .int .i64 ((rd_T101 l ((i : Nat) : Int)).f0.f1), .int .i64 ((rd_T101 l ((j1 : Nat) : Int)).f0.f1), .int .i64 ((rd_T101 l ((j2 : Nat) : Int)).f0.f1)] rfl (by simp only [List.map_toArray, List.map_cons, List.map_nil]; rfl) ?_)
         refine (outline_at.calls _ _ _ _ _ W' (atV_f _ _ _ _)).mono ?_
         rintro e1 W2 ⟨rfl, ⟨nd, rfl⟩⟩
         exact ⟨_, rfl, (hK _ _ ⟨⟨b0, b1, b2, b3, b4, b5, b6, b7, b8, b9, b10, true, true, b13, b14, true, b16, b17, true, b19, b20, true, true, b23, b24, b25, b26, gH, V1⟩, rfl, rfl, (k0), (k1), (k2), (hHB.drewN nd), (R_chg hHO ((Chg.refl (fun _ => False) _).drewN nd) (fun _ _ => id)), (fun h1 h2 => kN (hHX h1 h2) nd), (bN hHW nd)⟩)⟩
        ·
         simp only [List.getElem?_toArray, List.getElem?_cons_succ, List.getElem?_cons_zero, Option.some.injEq] at ho
         subst ho
         replace hf : b23 = false := hf
         have d11 : b11 = true := hd ⟨11, .data⟩ (by simp) rfl
         have d22 : b22 = true := hd ⟨22, .data⟩ (by simp) rfl
         subst d11
         subst d22
         subst hf
         refine Go.Proofs.YtbmklpcheopgoaaReg.op_val ho2 rfl (v := .agg #[.int .i64 ((atV ((1 + m : Nat) : Int) (rd_T101 l ((i : Nat) : Int)).f0.f0 (rd_T101 l ((j1 : Nat) : Int)).f0.f0 (rd_T101 l ((j2 : Nat) : Int)).f0.f0)), .int .i64 ((atV ((1 + m : Nat) : Int) (rd_T101 l ((i : Nat) : Int)).f0.f1 (rd_T101 l ((j1 : Nat) : Int)).f0.f1 (rd_T101 l ((j2 : Nat) : Int)).f0.f1))]) (w1 := W') ?_ (hK _ _ ⟨⟨b0, b1, b2, b3, b4, b5, b6, b7, b8, b9, b10, true, b12, b13, b14, b15, b16, b17, b18, b19, b20, b21, true, true, b24, b25, b26, gH, V1⟩, rfl, rfl, (k0), (k1), (k2), hHB, hHO, hHX, hHW⟩)
         simp [go_sem, hu, hu2]
        ·
         simp only [List.getElem?_toArray, List.getElem?_cons_succ, List.getElem?_cons_zero, Option.some.injEq] at ho
         subst ho
         replace hf : b24 = false := hf
         have d23 : b23 = true := hd ⟨23, .data⟩ (by simp) rfl
         subst d23
         have n25 : b25 = false := Bool.eq_false_iff.mpr (fun h => absurd (k0 h) (by rw [hf]; decide))
         have n26 : b26 = false := Bool.eq_false_iff.mpr (fun h => absurd (k2 h) (by rw [n25]; decide))
         subst n25
         subst n26
         subst hf
         refine Go.Proofs.YtbmklpcheopgoaaReg.op_val ho2 rfl (v := .slice (some ⟨(W'.heap.size), 0, none⟩) 1 1) (w1 := W'.alloc (.cells #[.int .i64 ((atV ((1 + m : Nat) : Int) (rd_T101 l ((i : Nat) : Int)).f0.f0 (rd_T101 l ((j1 : Nat) : Int)).f0.f0 (rd_T101 l ((j2 : Nat) : Int)).f0.f0)), .int .i64 ((atV ((1 + m : Nat) : Int) (rd_T101 l ((i : Nat) : Int)).f0.f1 (rd_T101 l ((j1 : Nat) : Int)).f0.f1 (rd_T101 l ((j2 : Nat) : Int)).f0.f1))] 52)) ?_ (hK _ _ ⟨⟨b0, b1, b2, b3, b4, b5, b6, b7, b8, b9, b10, b11, b12, b13, b14, b15, b16, b17, b18, b19, b20, b21, b22, true, true, false, false, W'.heap.size, V1⟩, rfl, rfl, (fun _ => rfl), (fun h => Bool.noConfusion h), (fun h => Bool.noConfusion h), (hHB.alloc _).tail, (R_chg hHO ((Chg.refl (fun _ => False) _).alloc _) (fun _ _ => id)), (fun _ _ => blk_new W' (.cells #[.int .i64 ((atV ((1 + m : Nat) : Int) (rd_T101 l ((i : Nat) : Int)).f0.f0 (rd_T101 l ((j1 : Nat) : Int)).f0.f0 (rd_T101 l ((j2 : Nat) : Int)).f0.f0)), .int .i64 ((atV ((1 + m : Nat) : Int) (rd_T101 l ((i : Nat) : Int)).f0.f1 (rd_T101 l ((j1 : Nat) : Int)).f0.f1 (rd_T101 l ((j2 : Nat) : Int)).f0.f1))] 52)), (hHW.alloc hHW.size _)⟩)
         simp [go_sem, hu]
        ·
         simp only [List.getElem?_toArray, List.getElem?_cons_succ, List.getElem?_cons_zero, Option.some.injEq] at ho
         subst ho
         replace hf : b25 = false := hf
         have d0 : b0 = true := hd ⟨0, .data⟩ (by simp) rfl
         have d22 : b22 = true := hd ⟨22, .chain⟩ (by simp) rfl
         have d24 : b24 = true := hd ⟨24, .data⟩ (by simp) rfl
         subst d0
         subst d22
         subst d24
         have n26 : b26 = false := Bool.eq_false_iff.mpr (fun h => absurd (k2 h) (by rw [hf]; decide))
         subst n26
         subst hf
         obtain ⟨vn, wn, hrn, hRn, hgn, hatn⟩ := run_append1 (P := Try.prog) (ty := 42) k52 w.heap.size Try.underlying42 info_pt2 rfl (by decide) (by decide) (.slice Ao2 o2.length co2) o2 ⟨(atV ((1 + m : Nat) : Int) (rd_T101 l ((i : Nat) : Int)).f0.f0 (rd_T101 l ((j1 : Nat) : Int)).f0.f0 (rd_T101 l ((j2 : Nat) : Int)).f0.f0), (atV ((1 + m : Nat) : Int) (rd_T101 l ((i : Nat) : Int)).f0.f1 (rd_T101 l ((j1 : Nat) : Int)).f0.f1 (rd_T101 l ((j2 : Nat) : Int)).f0.f1)⟩ [.int .i64 ((atV ((1 + m : Nat) : Int) (rd_T101 l ((i : Nat) : Int)).f0.f0 (rd_T101 l ((j1 : Nat) : Int)).f0.f0 (rd_T101 l ((j2 : Nat) : Int)).f0.f0)), .int .i64 ((atV ((1 + m : Nat) : Int) (rd_T101 l ((i : Nat) : Int)).f0.f1 (rd_T101 l ((j1 : Nat) : Int)).f0.f1 (rd_T101 l ((j2 : Nat) : Int)).f0.f1))] (fun _ => True) (fun _ => False) ⟨gH, 0, none⟩ 1 (fun j u hj => by rw [add_plain, blk_cell (hHX rfl rfl) j]; simpa using hj) (k52_mkM _ _ _ _) (fun _ hk => hk.elim) (fun _ _ => trivial) (R_all hHO) hHW.size (by omega)
         refine Go.Proofs.YtbmklpcheopgoaaReg.op_val ho2 rfl (v := vn) (w1 := wn) ?_ (hK _ _ ⟨⟨true, b1, b2, b3, b4, b5, b6, b7, b8, b9, b10, b11, b12, b13, b14, b15, b16, b17, b18, b19, b20, b21, true, b23, true, true, false, gH, vn⟩, rfl, rfl, (fun _ => rfl), (fun _ => rfl), (fun _ => rfl), (hHB.chg (Chg.of_grownBy hgn) (fun b hb e => hRow25 hHB hHO b hb e)), (R_own1 flat_pt2 hRn), (fun _ h => Bool.noConfusion h), (pw_below_grown hHW _ hHW.size hgn (fun k hk => Kd.R_base hHO k hk))⟩)
         exact Go.Proofs.YtbmklpcheopgoaaIt.run_app rfl rfl rfl hrn
        ·
         simp only [List.getElem?_toArray, List.getElem?_cons_succ, List.getElem?_cons_zero, Option.some.injEq] at ho
         subst ho
         replace hf : b26 = false := hf
         have d0 : b0 = true := hd ⟨0, .phase⟩ (by simp) rfl
         have d1 : b1 = true := hd ⟨1, .phase⟩ (by simp) rfl
         have d2 : b2 = true := hd ⟨2, .phase⟩ (by simp) rfl
         have d3 : b3 = true := hd ⟨3, .phase⟩ (by simp) rfl
         have d4 : b4 = true := hd ⟨4, .phase⟩ (by simp) rfl
         have d5 : b5 = true := hd ⟨5, .phase⟩ (by simp) rfl
         have d6 : b6 = true := hd ⟨6, .phase⟩ (by simp) rfl
         have d7 : b7 = true := hd ⟨7, .phase⟩ (by simp) rfl
         have d8 : b8 = true := hd ⟨8, .phase⟩ (by simp) rfl
         have d9 : b9 = true := hd ⟨9, .phase⟩ (by simp) rfl
         have d10 : b10 = true := hd ⟨10, .phase⟩ (by simp) rfl
         have d11 : b11 = true := hd ⟨11, .phase⟩ (by simp) rfl
         have d12 : b12 = true := hd ⟨12, .phase⟩ (by simp) rfl
         have d13 : b13 = true := hd ⟨13, .phase⟩ (by simp) rfl
         have d14 : b14 = true := hd ⟨14, .phase⟩ (by simp) rfl
         have d15 : b15 = true := hd ⟨15, .phase⟩ (by simp) rfl
         have d16 : b16 = true := hd ⟨16, .phase⟩ (by simp) rfl
         have d17 : b17 = true := hd ⟨17, .phase⟩ (by simp) rfl
         have d18 : b18 = true := hd ⟨18, .phase⟩ (by simp) rfl
         have d19 : b19 = true := hd ⟨19, .phase⟩ (by simp) rfl
         have d20 : b20 = true := hd ⟨20, .phase⟩ (by simp) rfl
         have d21 : b21 = true := hd ⟨21, .phase⟩ (by simp) rfl
         have d22 : b22 = true := hd ⟨22, .phase⟩ (by simp) rfl
         have d23 : b23 = true := hd ⟨23, .phase⟩ (by simp) rfl
         have d24 : b24 = true := hd ⟨24, .phase⟩ (by simp) rfl
         have d25 : b25 = true := hd ⟨25, .data⟩ (by simp) rfl
         subst d0
         subst d1
         subst d2
         subst d3
         subst d4
         subst d5
         subst d6
         subst d7
         subst d8
         subst d9
         subst d10
         subst d11
         subst d12
         subst d13
         subst d14
         subst d15
         subst d16
         subst d17
         subst d18
         subst d19
         subst d20
         subst d21
         subst d22
         subst d23
         subst d24
         subst d25
         subst hf
         refine Go.Proofs.YtbmklpcheopgoaaReg.op_val ho2 rfl (v := V1) (w1 := W') ?_ (hK _ _ ⟨⟨true, true, true, true, true, true, true, true, true, true, true, true, true, true, true, true, true, true, true, true, true, true, true, true, true, true, true, gH, V1⟩, rfl, rfl, (fun _ => rfl), (fun _ => rfl), (fun _ => rfl), hHB, hHO, hHX, hHW⟩)
         simp [go_sem, hu, hu2]
       ·
        rintro lst a W' ⟨⟨b0, b1, b2, b3, b4, b5, b6, b7, b8, b9, b10, b11, b12, b13, b14, b15, b16, b17, b18, b19, b20, b21, b22, b23, b24, b25, b26, gH, V1⟩, rfl, rfl, k0, k1, k2, hHB, hHO, hHX, hHW⟩ hall
        dsimp only at k0 k1 k2 hHB hHO hHX hHW
        have a0 : b0 = true := hall 0 (by decide)
        have a1 : b1 = true := hall 1 (by decide)
        have a2 : b2 = true := hall 2 (by decide)
        have a3 : b3 = true := hall 3 (by decide)
        have a4 : b4 = true := hall 4 (by decide)
        have a5 : b5 = true := hall 5 (by decide)
        have a6 : b6 = true := hall 6 (by decide)
        have a7 : b7 = true := hall 7 (by decide)
        have a8 : b8 = true := hall 8 (by decide)
        have a9 : b9 = true := hall 9 (by decide)
        have a10 : b10 = true := hall 10 (by decide)
        have a11 : b11 = true := hall 11 (by decide)
        have a12 : b12 = true := hall 12 (by decide)
        have a13 : b13 = true := hall 13 (by decide)
        have a14 : b14 = true := hall 14 (by decide)
        have a15 : b15 = true := hall 15 (by decide)
        have a16 : b16 = true := hall 16 (by decide)
        have a17 : b17 = true := hall 17 (by decide)
        have a18 : b18 = true := hall 18 (by decide)
        have a19 : b19 = true := hall 19 (by decide)
        have a20 : b20 = true := hall 20 (by decide)
        have a21 : b21 = true := hall 21 (by decide)
        have a22 : b22 = true := hall 22 (by decide)
        have a23 : b23 = true := hall 23 (by decide)
        have a24 : b24 = true := hall 24 (by decide)
        have a25 : b25 = true := hall 25 (by decide)
        have a26 : b26 = true := hall 26 (by decide)
        subst a0 a1 a2 a3 a4 a5 a6 a7 a8 a9 a10 a11 a12 a13 a14 a15 a16 a17 a18 a19 a20 a21 a22 a23 a24 a25 a26
        clear k0 k1 k2
        clear hall
        have HB : Blks [(gA, .cells #[.int .i64 (rd_T101 l ((i : Nat) : Int)).f0.f0, .int .i64 (rd_T101 l ((i : Nat) : Int)).f0.f1, .bool (rd_T101 l ((i : Nat) : Int)).f1] 101 (0, 0)), (gC, .cells #[.int .i64 (rd_T101 l ((j1 : Nat) : Int)).f0.f0, .int .i64 (rd_T101 l ((j1 : Nat) : Int)).f0.f1, .bool (rd_T101 l ((j1 : Nat) : Int)).f1] 101 (0, 0)), (gB, .cells #[.int .i64 (rd_T101 l ((j2 : Nat) : Int)).f0.f0, .int .i64 (rd_T101 l ((j2 : Nat) : Int)).f0.f1, .bool (rd_T101 l ((j2 : Nat) : Int)).f1] 101 (0, 0))] W' := hHB
        have HO : Kd.R k52 52 W' w.heap.size (Own1 V1) V1 (o2 ++ [⟨(atV ((1 + m : Nat) : Int) (rd_T101 l ((i : Nat) : Int)).f0.f0 (rd_T101 l ((j1 : Nat) : Int)).f0.f0 (rd_T101 l ((j2 : Nat) : Int)).f0.f0), (atV ((1 + m : Nat) : Int) (rd_T101 l ((i : Nat) : Int)).f0.f1 (rd_T101 l ((j1 : Nat) : Int)).f0.f1 (rd_T101 l ((j2 : Nat) : Int)).f0.f1)⟩]) := hHO
        have HW : Below w.heap.size w W' := hHW
        clear hHB hHO hHX hHW
        have HH := Lib.hid (And.intro HO (And.intro HB HW))
        clear HO HB HW
        go_wp2
        refine ⟨⟨m + 1, by omega, by congr 1 <;> omega, ⟨?_, HH.out.2.1, HH.out.2.2⟩⟩, by simp [intOf]; omega⟩
        rw [HKS.out, ← List.append_assoc, HO2.out]
        exact HH.out.1
      ·
       obtain rfl : m = 8 := by omega
       have HH := Lib.hid (And.intro HO (And.intro HB HW))
       clear HO HB HW
       go_wp2
       refine ⟨⟨i + 2, out ++ curveK l i 8, by omega, by congr 1 <;> omega, by simp; omega, by rw [List.length_append, curveK_len]; omega, ⟨?_, HH.out.1, HH.out.2.2⟩⟩, by simp [intOf]; omega⟩
       rw [← hE.out.2, rowGo_off l i out hlt (by rw [hJ.out.1]; exact hons.out)]
  ·
   obtain ⟨Ao, co, hv3⟩ := Kd.R_slice HO
   subst hv3
   have hcap := (Kd.R_reads' HO).2.1
   have hc2 : out.length - 1 ≤ co := by omega
   go_wp2
   go_ret
   rw [show l.length - i = 0 by omega] at HG
   have HG : out = rowAll l := HG
   subst HG
   exact ⟨_, rfl, Kd.R_mono (Kd.R_take HO (m := (rowAll l).length - 1) (by omega)) (fun _ _ => trivial), HB⟩
end Go.Proofs.Ytbmklpcheopgoaa.H

namespace Go.Proofs.Ytbmklpcheopgoaa.H
open Go.RowKit Go.Proofs.YtbmklpcheopgoaaW.PrintWords Go.Proofs.YtbmklpcheopgoaaW.PrintLast Go.Proofs.YtbmklpcheopgoaaW.PrintMore
attribute [local go_sem] max2_int min2_int max_two min_two max_three min_three max_four min_four
set_option linter.unusedVariables false
set_option linter.unusedSimpArgs false
open Go.Proofs.YtbmklpcheopgoaaOps
attribute [local go_sem] World.cell?_alloc_some
def ringStep (pts : List S52) (on : List Bool) (st : List S101 × Int) (i : Nat) : List S101 × Int :=
  let b := (i + (pts.length - 1)) % pts.length
  let p := rd_T52 pts i
  let q := rd_T52 pts b
  let o1 := if rdOf false on i = false ∧ rdOf false on b = false then st.1 ++ [⟨⟨wrap64 (p.f0 + q.f0) / 2, wrap64 (p.f1 + q.f1) / 2⟩, true⟩] else st.1
  (o1 ++ [⟨p, rdOf false on i⟩], if rdOf false on i = true ∧ st.2 < 0 then (o1.length : Int) else st.2)
def ringSt (pts : List S52) (on : List Bool) (k : Nat) : List S101 × Int := (List.range k).foldl (ringStep pts on) ([], -1)
theorem ringSt_succ (pts : List S52) (on : List Bool) (k : Nat) : ringSt pts on (k + 1) = ringStep pts on (ringSt pts on k) k := by simp [ringSt, List.range_succ]
theorem ringStep_len (pts : List S52) (on : List Bool) (st : List S101 × Int) (i : Nat) : (ringStep pts on st i).1.length ≤ st.1.length + 2 := by
  unfold ringStep
  dsimp only
  split <;> simp
theorem ringSt_len (pts : List S52) (on : List Bool) (k : Nat) : (ringSt pts on k).1.length ≤ 2 * k := by
  induction k with
  | zero => simp [ringSt]
  | succ k ih => rw [ringSt_succ]; have := ringStep_len pts on (ringSt pts on k) k; omega
theorem ringSt_at (pts : List S52) (on : List Bool) (k : Nat) : (ringSt pts on k).2 ≤ (ringSt pts on k).1.length := by
  induction k with
  | zero => simp [ringSt]
  | succ k ih =>
    rw [ringSt_succ]
    generalize ringSt pts on k = st at *
    unfold ringStep
    dsimp only
    split <;> split <;> simp <;> omega
def ringFin (st : List S101 × Int) : List S101 := st.1.drop (max st.2 0).toNat ++ st.1.take (max st.2 0).toNat
theorem ringFin_neg (xs : List S101) (s0 : Int) (h : s0 < 0) : ringFin (xs, s0) = xs := by
  unfold ringFin
  have : (max s0 0).toNat = 0 := by omega
  simp [this]
theorem ringFin_nat (xs : List S101) (s : Nat) : ringFin (xs, (s : Int)) = xs.drop s ++ xs.take s := by
  unfold ringFin
  have : (max (s : Int) 0).toNat = s := by omega
  simp [this]
theorem ringNil {α : Type} {d : Kd α} {W : World} {A : Option Addr} {n : Nat} {xs : List α} (h : d.C W A n xs) : d.C W A 0 [] := ⟨rfl, by omega, fun h => absurd h (by omega)⟩
theorem ringNone {α : Type} {d : Kd α} {W : World} {A : Option Addr} {xs : List α} (h : d.C W A xs.length xs) : A = none → xs.length = 0 := fun e => by
  rcases Nat.eq_zero_or_pos xs.length with h0 | h0
  · exact h0
  · obtain ⟨ad, h1, _⟩ := h.2.2 h0
    rw [e] at h1; cases h1
theorem ring_lim {α : Type} (n : Nat) (xs : List α) (x : α) (i : Nat) (h : xs.length ≤ 2 * i) (hi : i < n) (hn : n ≤ 1000000) : ((xs ++ [x]).length + 1) * 24 ≤ 140737488355328 := by
  simp only [List.length_append, List.length_singleton]
  omega
set_option maxRecDepth 100000 in
set_option maxHeartbeats 4000000 in
theorem ring_calls (A0 : Option Addr) (c0 : Nat) (pts : List S52) (A1 : Option Addr) (c1 : Nat) (on : List Bool) (w : World) (hr0 : Kd.C k52 w A0 pts.length pts) (hc0 : pts.length ≤ c0) (hr1 : Kd.C Kd.bool w A1 on.length on) (hc1 : on.length ≤ c1)
    (hl : on.length = pts.length) (hlim : pts.length ≤ 1000000) :
    Calls Try.prog 49 #[.slice A0 pts.length c0, .slice A1 on.length c1] w fun e w' => ∃ A c, e = .returned (.slice A (ringFin (ringSt pts on pts.length)).length c) ∧ (ringFin (ringSt pts on pts.length)).length ≤ c ∧ Kd.C k101 w' A (ringFin (ringSt pts on pts.length)).length (ringFin (ringSt pts on pts.length)) ∧ Below w.heap.size w w' := by
  have hu52 := Try.underlying52
  have hu101 := Try.underlying101
  have HR0 := aM hr0
  have HR1 := aM hr1
  have HL := Lib.hid hl
  clear hr0 hr1 hl
  go_enter Try.func49, Try.ntmps49
  go_wp2
  go_loopw [5, 6, 16] (fun v5 v6 v16 wr => ∃ i : Nat, i ≤ pts.length ∧ v16 = .int .i64 i ∧ v6 = .int .i64 (ringSt pts on i).2 ∧ Aside0 (Kd.R k101 101 wr w.heap.size (fun _ => True) v5 (ringSt pts on i).1 ∧ Below w.heap.size w wr))
    (fun _ _ v16 _ => pts.length - (intOf v16).toNat)
  case atStart => exact ⟨0, by omega, rfl, rfl, ⟨Kd.R_nil _ _ _ _ _, Below.refl _ _⟩⟩
  case round =>
    obtain ⟨i, hi, rfl, rfl, ⟨HO, HB⟩⟩ := hrel
    obtain ⟨Ao, co, rfl, hco, hCo⟩ := Kd.R_reads HO
    have HCo := aM hCo
    clear hCo
    by_cases hlt : i < pts.length
    · obtain ⟨ad0, e0, hx0, hx1⟩ := at_T52 HR0.out (i : Int) (by omega) (by omega)
      cases e0
      replace hx0 := (HB.cell (World.block_lt_of_cell? w _ hx0)).trans hx0
      replace hx1 := (HB.cell (World.block_lt_of_cell? w _ hx1)).trans hx1
      obtain ⟨ad1, e1, hy0⟩ := Kd.at_bool HR1.out (i : Int) (by omega) (by have := HL.out; omega)
      cases e1
      have hlt1 : (ad1.add (i : Int).toNat).block < w.heap.size := World.block_lt_of_cell? w _ hy0
      replace hy0 := (HB.cell (World.block_lt_of_cell? w _ hy0)).trans hy0
      simp only [Int.toNat_natCast] at hx0 hx1 hy0 hlt1
      obtain ⟨b, hb⟩ : ∃ b : Nat, (i + (pts.length - 1)) % pts.length = b := ⟨_, rfl⟩
      have hbl : b < pts.length := by rw [← hb]; exact Nat.mod_lt _ (by omega)
      have hbi : ((i : Int) + ((pts.length : Int) - 1)) % (pts.length : Int) = (b : Int) := by
        rw [← hb, Int.natCast_emod, Int.natCast_add, Int.natCast_sub (by omega)]; rfl
      obtain ⟨ad2, e2, hz0, hz1⟩ := at_T52 HR0.out (b : Int) (by omega) (by omega)
      cases e2
      obtain ⟨ad2, e2, ho0⟩ := Kd.at_bool HR1.out (b : Int) (by omega) (by have := HL.out; omega)
      cases e2
      have hltz : (ad0.add ((b : Int).toNat * 2)).block < w.heap.size := World.block_lt_of_cell? w _ hz0
      simp only [Int.toNat_natCast] at hz0 hz1 ho0 hltz
      replace hz0 := (HB.cell (World.block_lt_of_cell? w _ hz0)).trans hz0
      replace hz1 := (HB.cell (World.block_lt_of_cell? w _ hz1)).trans hz1
      replace ho0 := (HB.cell (World.block_lt_of_cell? w _ ho0)).trans ho0
      have hio : i < on.length := by have := HL.out; omega
      have hbo : b < on.length := by have := HL.out; omega
      have Hb := Lib.hid hb
      clear hb
      have hlen := ringSt_len pts on i
      have hsz : w.heap.size ≤ (wr.alloc (.cells #[.int .i64 (rd_T52 pts i).f0, .int .i64 (rd_T52 pts i).f1] 52)).drew.heap.size := by have := HB.size; simp; omega
      have hlim2 : ((ringSt pts on i).1.length + 1) * 24 ≤ 140737488355328 := by omega
      have hl2 : ∀ x : S101, (((ringSt pts on i).1 ++ [x]).length + 1) * 24 ≤ 140737488355328 := fun x => ring_lim _ _ x i hlen hlt hlim
      cases hon : rdOf false on (i : Int) with
      | true =>
        rw [hon] at hy0
        by_cases hst : (ringSt pts on i).2 < 0
        · go_wp2
          go_region_held3 (fun w' => w'.cell? (ad1.add i) = some (.bool true) ∧ w'.cell? ⟨wr.heap.size, 0, none⟩ = some (.int .i64 (rd_T52 pts i).f0) ∧ w'.cell? ⟨wr.heap.size, 1, none⟩ = some (.int .i64 (rd_T52 pts i).f1))
            (first
              | go_keep
              | (go_split_ands
                 exact ⟨cell_far_lt hg (by simp [go_sem, *]) (Kd.R_base HO) hlt1, cell_far_ge hg (by simp [go_sem]) (Kd.R_lt HO) (Nat.le_refl _), cell_far_ge hg (by simp [go_sem]) (Kd.R_lt HO) (Nat.le_refl _)⟩))
            ((refine R_append_at k101 (w0 := w) (W := (wr.alloc (.cells #[.int .i64 (rd_T52 pts i).f0, .int .i64 (rd_T52 pts i).f1] 52)).drew) w.heap.size rfl (.tmp 72) (.tmp 79) 83 101 _ 24 rfl Try.underlying83 info101 rfl (by decide) (by omega) (.slice Ao (ringSt pts on i).1.length co) (ringSt pts on i).1 ⟨rd_T52 pts i, true⟩ _ rfl _ rfl (by simp) (k101_mkM _ _ _ _) (Kd.R_drew (Kd.R_alloc HO _)) (below_drew (bA HB _)) hsz hlim2 rfl ?_
              intro v1 w1 ho hb hg hat))
          go_wp2
          go_roundw
          case rel => exact ⟨i + 1, by omega, by simp, by rw [ringSt_succ]; simp [ringStep, hon]; try omega, ⟨by rw [ringSt_succ]; simpa [ringStep, hon] using ho, hb⟩⟩
          case measure => simp [intOf]; omega
        · go_wp2
          go_region_held3 (fun w' => w'.cell? (ad1.add i) = some (.bool true) ∧ w'.cell? ⟨wr.heap.size, 0, none⟩ = some (.int .i64 (rd_T52 pts i).f0) ∧ w'.cell? ⟨wr.heap.size, 1, none⟩ = some (.int .i64 (rd_T52 pts i).f1))
            (first
              | go_keep
              | (go_split_ands
                 exact ⟨cell_far_lt hg (by simp [go_sem, *]) (Kd.R_base HO) hlt1, cell_far_ge hg (by simp [go_sem]) (Kd.R_lt HO) (Nat.le_refl _), cell_far_ge hg (by simp [go_sem]) (Kd.R_lt HO) (Nat.le_refl _)⟩))
            ((refine R_append_at k101 (w0 := w) (W := (wr.alloc (.cells #[.int .i64 (rd_T52 pts i).f0, .int .i64 (rd_T52 pts i).f1] 52)).drew) w.heap.size rfl (.tmp 72) (.tmp 79) 83 101 _ 24 rfl Try.underlying83 info101 rfl (by decide) (by omega) (.slice Ao (ringSt pts on i).1.length co) (ringSt pts on i).1 ⟨rd_T52 pts i, true⟩ _ rfl _ rfl (by simp) (k101_mkM _ _ _ _) (Kd.R_drew (Kd.R_alloc HO _)) (below_drew (bA HB _)) hsz hlim2 rfl ?_
              intro v1 w1 ho hb hg hat))
          go_wp2
          go_roundw
          case rel => exact ⟨i + 1, by omega, by simp, by rw [ringSt_succ]; simp [ringStep, hon]; try omega, ⟨by rw [ringSt_succ]; simpa [ringStep, hon] using ho, hb⟩⟩
          case measure => simp [intOf]; omega
      | false =>
        rw [hon] at hy0
        cases hob : rdOf false on (b : Int) with
        | true =>
          rw [hob] at ho0
          have hst : True := trivial
          go_wp2
          go_region_held3 (fun w' => w'.cell? (ad1.add i) = some (.bool false) ∧ w'.cell? ⟨wr.heap.size, 0, none⟩ = some (.int .i64 (rd_T52 pts i).f0) ∧ w'.cell? ⟨wr.heap.size, 1, none⟩ = some (.int .i64 (rd_T52 pts i).f1))
            (first
              | go_keep
              | (go_split_ands
                 exact ⟨cell_far_lt hg (by simp [go_sem, *]) (Kd.R_base HO) hlt1, cell_far_ge hg (by simp [go_sem]) (Kd.R_lt HO) (Nat.le_refl _), cell_far_ge hg (by simp [go_sem]) (Kd.R_lt HO) (Nat.le_refl _)⟩))
            ((refine R_append_at k101 (w0 := w) (W := (wr.alloc (.cells #[.int .i64 (rd_T52 pts i).f0, .int .i64 (rd_T52 pts i).f1] 52)).drew) w.heap.size rfl (.tmp 72) (.tmp 79) 83 101 _ 24 rfl Try.underlying83 info101 rfl (by decide) (by omega) (.slice Ao (ringSt pts on i).1.length co) (ringSt pts on i).1 ⟨rd_T52 pts i, false⟩ _ rfl _ rfl (by simp) (k101_mkM _ _ _ _) (Kd.R_drew (Kd.R_alloc HO _)) (below_drew (bA HB _)) hsz hlim2 rfl ?_
              intro v1 w1 ho hb hg hat))
          go_wp2
          go_roundw
          case rel => exact ⟨i + 1, by omega, by simp, by rw [ringSt_succ]; simp [ringStep, hon], ⟨by rw [ringSt_succ]; simpa [ringStep, hon, hob, Hb.out] using ho, hb⟩⟩
          case measure => simp [intOf]; omega
        | false =>
          rw [hob] at ho0
          go_wp2
          go_region_held3 (fun w' => w'.cell? (ad1.add i) = some (.bool false) ∧ w'.cell? ⟨wr.heap.size, 0, none⟩ = some (.int .i64 (rd_T52 pts i).f0) ∧ w'.cell? ⟨wr.heap.size, 1, none⟩ = some (.int .i64 (rd_T52 pts i).f1) ∧ w'.cell? (ad0.add (b * 2)) = some (.int .i64 (rd_T52 pts b).f0) ∧ w'.cell? ⟨(ad0.add (b * 2)).block, (ad0.add (b * 2)).off + 1, none⟩ = some (.int .i64 (rd_T52 pts b).f1))
            (first
              | go_keep
              | exact ⟨hK1, hK2, hK3, hK4, hK5⟩
              | (go_split_ands <;> assumption)
              | go_split_ands)
            ((go_loud (refine R_append_at k101 (w0 := w) (W := (wr.alloc (.cells #[.int .i64 (rd_T52 pts i).f0, .int .i64 (rd_T52 pts i).f1] 52)).drew) w.heap.size rfl (.tmp 39) (.tmp 60) 83 101 _ 24 rfl Try.underlying83 info101 rfl (by decide) (by omega) (.slice Ao (ringSt pts on i).1.length co) (ringSt pts on i).1 ⟨⟨IntKind.i64.wrap ((rd_T52 pts i).f0 + (rd_T52 pts b).f0) / 2, IntKind.i64.wrap ((rd_T52 pts i).f1 + (rd_T52 pts b).f1) / 2⟩, true⟩ _ rfl _ rfl (by simp) (k101_mkM _ _ _ _) (Kd.R_drew (Kd.R_alloc HO _)) (below_drew (bA HB _)) hsz hlim2 rfl ?_)
              intro v1 w1 ho hb hg hat
              have hK1 : w1.cell? (ad1.add i) = some (.bool false) := cell_far_lt hg (by simp [go_sem, *]) (Kd.R_base HO) hlt1
              have hK2 : w1.cell? ⟨wr.heap.size, 0, none⟩ = some (.int .i64 (rd_T52 pts i).f0) := cell_far_ge hg (by simp [go_sem]) (Kd.R_lt HO) (Nat.le_refl _)
              have hK3 : w1.cell? ⟨wr.heap.size, 1, none⟩ = some (.int .i64 (rd_T52 pts i).f1) := cell_far_ge hg (by simp [go_sem]) (Kd.R_lt HO) (Nat.le_refl _)
              have hK4 : w1.cell? (ad0.add (b * 2)) = some (.int .i64 (rd_T52 pts b).f0) := cell_far_lt hg (by simp [go_sem, *]) (Kd.R_base HO) hltz
              have hK5 : w1.cell? ⟨(ad0.add (b * 2)).block, (ad0.add (b * 2)).off + 1, none⟩ = some (.int .i64 (rd_T52 pts b).f1) := cell_far_lt hg (by simp [go_sem, *]) (Kd.R_base HO) hltz
              have hK6 : w1.heap[wr.heap.size]? = some (.cells #[.int .i64 (rd_T52 pts i).f0, .int .i64 (rd_T52 pts i).f1] 52 (0, 0)) := (hg.block _ (by simp) (fun e => by have := Kd.R_lt HO _ e.symm; omega)).trans (World.alloc_heap_new wr _)))
          have hs1 : w.heap.size ≤ w1.drew.heap.size := by have := hb.size; simp; omega
          have HO1 := aM ho
          have HB1 := aM hb
          have HK6 := aM hK6
          clear hg hat ho hb hK6
          go_wp2
          go_region_held3 (fun w' => w'.cell? (ad1.add i) = some (.bool false) ∧ w'.cell? ⟨wr.heap.size, 0, none⟩ = some (.int .i64 (rd_T52 pts i).f0) ∧ w'.cell? ⟨wr.heap.size, 1, none⟩ = some (.int .i64 (rd_T52 pts i).f1))
            (first
              | go_keep
              | exact ⟨cell_far_lt hg2 (by simp [go_sem, *]) (Kd.R_base HO1.out) hlt1, hM2, hM3⟩
              | (go_split_ands <;> first | assumption | exact cell_far_lt hg2 (by simp [go_sem, *]) (Kd.R_base HO1.out) hlt1)
              | go_split_ands)
            ((go_loud (refine R_append_at k101 (w0 := w) (W := w1.drew) w.heap.size rfl (.tmp 72) (.tmp 79) 83 101 _ 24 rfl Try.underlying83 info101 rfl (by decide) (by omega) v1 _ ⟨rd_T52 pts i, false⟩ _ rfl _ rfl (by simp) (k101_mkM _ _ _ _) (Kd.R_drew HO1.out) (below_drew HB1.out) hs1 (hl2 _) rfl ?_)
              intro v2 w2 ho2 hb2 hg2 hat2
              have hM : w2.heap[wr.heap.size]? = some (.cells #[.int .i64 (rd_T52 pts i).f0, .int .i64 (rd_T52 pts i).f1] 52 (0, 0)) := (hg2.block _ (Array.getElem?_eq_some_iff.1 HK6.out).1 (Kd.R_ne HO1.out HK6.out (by decide))).trans HK6.out
              have hM1 : w2.cell? (ad1.add i) = some (.bool false) := cell_far_lt hg2 (by simp [go_sem, *]) (Kd.R_base HO1.out) hlt1
              have hM2 := blk_cell hM 0
              have hM3 := blk_cell hM 1
              clear hM))
          go_wp2
          go_roundw
          case rel => exact ⟨i + 1, by omega, by simp, by rw [ringSt_succ]; simp [ringStep, hon], ⟨by rw [ringSt_succ]; simpa [ringStep, hon, hob, Hb.out, i64_w] using ho2, hb2⟩⟩
          case measure => simp [intOf]; omega
    · obtain rfl : i = pts.length := by omega
      have hst := ringSt_at pts on pts.length
      have hlen := ringSt_len pts on pts.length
      generalize hQ : ringSt pts on pts.length = st at *
      obtain ⟨xs, s0⟩ := st
      have HQ := Lib.hid hQ
      clear hQ
      dsimp only at *
      have hbel : ∀ {w1 : World}, Below wr.drew.heap.size wr.drew w1 → Below w.heap.size wr.drew w1 := fun h => h.mono HB.size
      have hlim3 : (xs.length + 0) * 24 ≤ 140737488355328 := by omega
      by_cases h0 : s0 < 0
      · have hfin : ringFin (xs, s0) = xs := ringFin_neg _ _ h0
        obtain ⟨A1, c1, w1, hrun, hc1, hC1, hb1⟩ := run_full (P := Try.prog) k101 (W := wr.drew) (t := 83) (ty := 83) (c := xs.length) (c' := co) Try.underlying83 info101 rfl (by decide) (by omega) (Kd.C_drew HCo.out) (Kd.C_drew (ringNil HCo.out)) (Nat.le_refl _) (.inr rfl) hlim3 (ringNone HCo.out)
        simp only [Nat.add_zero, List.append_nil] at hrun hC1 hc1
        go_wp2
        go_still_tail 10, (by kernel_rfl)
        change wpList _ _ _ _ _ wr.drew
        go_wp2_with (first | (at_builtin; refine app_list (s := .tmp 90) (x := .tmp 93) rfl rfl rfl rfl hrun ?_))
        go_ret
        exact ⟨A1, c1, by rw [HQ.out, hfin]; rfl, by rw [HQ.out, hfin]; exact hc1, by rw [HQ.out, hfin]; exact hC1, HB.drew.trans (hbel hb1)⟩
      · obtain ⟨s, rfl⟩ : ∃ s : Nat, s0 = (s : Int) := ⟨s0.toNat, by omega⟩
        have hsl : s ≤ xs.length := by omega
        by_cases he : xs.length = s
        · have hfin := ringFin_nat xs s
          subst he
          obtain ⟨A1, c1, w1, hrun, hc1, hC1, hb1⟩ := run_full (P := Try.prog) k101 (W := wr.drew) (A := Ao) (t := 83) (ty := 83) (c := 0) (c' := co) Try.underlying83 info101 rfl (by decide) (by omega) (Kd.C_drew (ringNil HCo.out)) (Kd.C_drew HCo.out) (Nat.le_refl _) (by omega) (by omega) (fun _ => rfl)
          simp only [Nat.zero_add, List.nil_append] at hrun hC1 hc1
          have hf2 : xs.drop xs.length ++ xs.take xs.length = xs := by simp
          rw [hf2] at hfin
          have hco2 : xs.length ≤ co := hco
          go_wp2
          go_still_tail 10, (by kernel_rfl)
          change wpList _ _ _ _ _ wr.drew
          go_wp2_with (first | (at_builtin; refine app_list (s := .tmp 90) (x := .tmp 93) rfl rfl rfl rfl hrun ?_))
          go_ret
          exact ⟨A1, c1, by rw [HQ.out, hfin]; rfl, by rw [HQ.out, hfin]; exact hc1, by rw [HQ.out, hfin]; exact hC1, HB.drew.trans (hbel hb1)⟩
        · have he1 : ¬ (xs.length = s) := he
          have he2 : ¬ (xs.length - s = 0) := by omega
          have he3 : s < xs.length := by omega
          have he4 : s ≤ co := by omega
          have hfin := ringFin_nat xs s
          have hdl : (xs.drop s).length = xs.length - s := List.length_drop
          have htl : (xs.take s).length = s := by rw [List.length_take]; omega
          have hA := Kd.C_drop (c := xs.length) HCo.out hsl (Nat.le_refl _)
          rw [if_neg he1, hdl] at hA
          have hB := Kd.C_take HCo.out hsl
          rw [htl] at hB
          have hlim4 : (xs.length - s + s) * 24 ≤ 140737488355328 := by omega
          obtain ⟨g, hg⟩ : ∃ g, Ao = some g := by obtain ⟨g, hg, _⟩ := HCo.out.2.2 (by omega); exact ⟨g, hg⟩
          subst hg
          obtain ⟨A1, c1, w1, hrun, hc1, hC1, hb1⟩ := run_full (P := Try.prog) k101 (W := wr.drew) (t := 83) (ty := 83) (c := xs.length - s) (c' := co) Try.underlying83 info101 rfl (by decide) (by omega) (Kd.C_drew hA) (Kd.C_drew hB) (Nat.le_refl _) (by omega) hlim4 (fun h => by cases h)
          have hsum : xs.length - s + s = xs.length := by omega
          have hsum2 : (xs.drop s ++ xs.take s).length = xs.length := by rw [List.length_append, hdl, htl]; omega
          have HR := Lib.hid hrun
          have HS := Lib.hid hsum
          have HS2 := Lib.hid hsum2
          have HF := Lib.hid hfin
          have HC1 := aM hC1
          clear hrun hsum hsum2 hdl htl hA hB hC1 hfin
          go_wp2
          go_still_tail 10, (by kernel_rfl)
          change wpList _ _ _ _ _ wr.drew
          go_wp2_with (first | (at_builtin; refine app_list (s := .tmp 90) (x := .tmp 93) rfl rfl rfl rfl HR.out ?_))
          go_ret
          exact ⟨A1, c1, by rw [HQ.out, HF.out, HS2.out, ← HS.out]; rfl, by rw [HQ.out, HF.out, HS2.out, ← HS.out]; exact hc1, by rw [HQ.out, HF.out, HS2.out, ← HS.out]; exact HC1.out, HB.drew.trans (hbel hb1)⟩
end Go.Proofs.Ytbmklpcheopgoaa.H

namespace Go.Proofs.Ytbmklpcheopgoaa.H
open Go.RowKit Go.Proofs.YtbmklpcheopgoaaW.PrintWords Go.Proofs.YtbmklpcheopgoaaW.PrintLast Go.Proofs.YtbmklpcheopgoaaW.PrintMore
attribute [local go_sem] max2_int min2_int max_two min_two max_three min_three max_four min_four
set_option linter.unusedVariables false
set_option linter.unusedSimpArgs false
open Go.Proofs.YtbmklpcheopgoaaOps Go.Proofs.YtbmklpcheopgoaaIt Go.Proofs.YtbmklpcheopgoaaBlks Go.Proofs.YtbmklpcheopgoaaFlat Go.Proofs.YtbmklpcheopgoaaCallOps Go.Shelf
attribute [local go_sem] Oper.semAt_some wide_depth wide_fn World.cell?_alloc_some
theorem lines_info : (Try.prog.info? 42).map (fun i => (i.zero, i.size, i.bytes)) = some (some (.slice none 0 0), Kd.sz (Kd.slice 52 k52), 24) := by kernel_rfl
theorem lines_cuts_len (es : List Int) (n : Int) : ∀ b, (cutsF b es n).length ≤ es.length := by
 induction es with
 | nil => intro b; simp [cutsF]
 | cons e es ih =>
  intro b
  unfold cutsF
  split
  ·
   simp
  ·
   simp [ih (e + 1)]
theorem ringStep_ge (pts : List S52) (on : List Bool) (st : List S101 × Int) (i : Nat) : st.1.length + 1 ≤ (ringStep pts on st i).1.length := by
 unfold ringStep
 dsimp only
 split <;> simp
theorem ringSt_ge (pts : List S52) (on : List Bool) (k : Nat) : k ≤ (ringSt pts on k).1.length := by
 induction k with
 | zero => omega
 | succ k ih => rw [ringSt_succ]; have := ringStep_ge pts on (ringSt pts on k) k; omega
theorem ringFin_len (pts : List S52) (on : List Bool) (k : Nat) : (ringFin (ringSt pts on k)).length = (ringSt pts on k).1.length := by
 have := ringSt_at pts on k
 unfold ringFin
 rw [List.length_append, List.length_drop, List.length_take]
 omega
def contourLines (pts : List S52) (on : List Bool) (s t : Nat) : List S52 := rowL (ringFin (ringSt ((pts.drop s).take (t - s)) ((on.drop s).take (t - s)) (t - s)))
def linesK (pts : List S52) (on : List Bool) (es : List Int) (k : Nat) : List (List S52) := ((cutsL es pts.length).take k).map fun c => contourLines pts on c.1.toNat c.2.toNat
theorem linesK_len (pts : List S52) (on : List Bool) (es : List Int) (k : Nat) (h : k ≤ (cutsL es pts.length).length) : (linesK pts on es k).length = k := by simp [linesK, h]
structure LinesReg6 where
 mk ::
 b0 : Bool
 b1 : Bool
 b2 : Bool
 b3 : Bool
 b4 : Bool
 b5 : Bool
 b6 : Bool
 b7 : Bool
 b8 : Bool
 b9 : Bool
 b10 : Bool
 b11 : Bool
 b12 : Bool
 b13 : Bool
 b14 : Bool
 b15 : Bool
 b16 : Bool
 b17 : Bool
 b18 : Bool
 b19 : Bool
 b20 : Bool
 b21 : Bool
 VR : Value
 VQ : Value
 gH : Nat
 V1 : Value
set_option maxRecDepth 100000 in
set_option maxHeartbeats 4000000 in
theorem lines_calls (A0 A1 A2 : Option Addr) (c0 c1 c2 : Nat) (pts : List S52) (on : List Bool) (es : List Int) (w : World) (hp : Kd.C k52 w A0 pts.length pts) (hc0 : pts.length ≤ c0) (ho : Kd.C Kd.bool w A1 on.length on) (hc1 : on.length ≤ c1) (hes : (Kd.int .i64).C w A2 es.length es) (hc2 : es.length ≤ c2) (hlim : pts.length ≤ 1000000) (hlime : es.length ≤ 1000000) (hon : on.length = pts.length) :
  Calls Try.prog 32 #[.slice A0 pts.length c0, .slice A1 on.length c1, .slice A2 es.length c2] w fun e w' => ∃ v0 : Value, e = .returned v0 ∧ Kd.S (Kd.slice 52 k52) 42 w' w.heap.size (fun _ => True) v0 (linesK pts on es (cutsL es pts.length).length) ∧ Below w.heap.size w w' := by
 have hne : (((on.length : Nat) : Int) != ((pts.length : Nat) : Int)) = false := by simp [hon]
 refine (callsIn_wide (n := 0)).1 (callsIn_of_wp_marks Try.func32 rfl trivial ?_ rfl)
 simp only [Try.ntmps32, List.size_toArray, List.length_cons, List.length_nil, Nat.reduceAdd, Nat.reduceSub, Array.replicate_succ, Array.replicate_zero, List.push_toArray, List.append_toArray, List.nil_append, List.cons_append]
 have HON := Lib.hid hon
 clear hon
 gi_wp2
 refine CallsIn.mono (cuts_calls 0 _ _ _ _ _) ?_
 rintro e w' ⟨rfl, rfl⟩
 gi_wp2
 generalize hV : World.alloc (World.alloc (World.alloc (World.alloc (World.alloc w _) _) _) _) _ = V
 have hVs : V.heap.size = w.heap.size + 1 + 1 + 1 + 1 + 1 := by rw [← hV]; simp
 have hbw : Below w.heap.size w V := by rw [← hV]; exact (((((Below.refl _ w).alloc (Nat.le_refl _) _).alloc (by simp) _).alloc (by simp; omega) _).alloc (by simp; omega) _).alloc (by simp; omega) _
 have hB : Blks [(w.heap.size + 1 + 1 + 1 + 1, .cells #[.int .i64 pts.length] 3 (0, 0)), (w.heap.size + 1 + 1 + 1, .cells #[.slice A2 es.length c2] 23 (0, 0)), (w.heap.size + 1 + 1, .cells #[.slice none 0 0] 45 (0, 0)), (w.heap.size + 1, .cells #[.slice A1 on.length c1] 43 (0, 0)), (w.heap.size, .cells #[.slice A0 pts.length c0] 42 (0, 0))] V := by
  rw [← hV]; exact (((((Blks.nil w).alloc _).alloc_at _ (by simp)).alloc_at _ (by simp)).alloc_at _ (by simp)).alloc_at _ (by simp)
 clear hV
 have hit := cuts_it V A2 c2 es pts.length (by omega) (w.heap.size + 1 + 1 + 1) (w.heap.size + 1 + 1 + 1 + 1) (hB.cell 1 rfl 0) (hB.cell 0 rfl 0) (Kd.C_below hes hbw)
 refine range_outer hit (by rfl) (fun args w => by simp [go_sem])
  (fun k own V' => own (w.heap.size + 1 + 1) ∧ (∀ b, own b → b = w.heap.size + 1 + 1 ∨ V.heap.size ≤ b) ∧ (∃ v, Blks [(w.heap.size + 1 + 1, .cells #[v] 45 (0, 0)), (w.heap.size + 1, .cells #[.slice A1 on.length c1] 43 (0, 0)), (w.heap.size, .cells #[.slice A0 pts.length c0] 42 (0, 0))] V' ∧
    Kd.S (Kd.slice 52 k52) 42 V' w.heap.size (fun b => own b ∧ b ≠ w.heap.size + 1 + 1) v (linesK pts on es k)) ∧ Below w.heap.size w V' ∧ V.heap.size ≤ V'.heap.size)
  (fun c k own V' => False)
  (fun b => b = w.heap.size + 1 + 1) ?_ ?_ ?_ ?_ ?_
  (fun k own a' V' => ∃ (c : Int × Int) (X : Nat), (cutsL es pts.length)[k]? = some c ∧ a' = ⟨#[.slice A0 pts.length c0, .slice A1 on.length c1, .slice A2 es.length c2, .pointer (some ⟨w.heap.size, 0, none⟩), .pointer (some ⟨w.heap.size + 1, 0, none⟩), undef, .slice none 0 0, .pointer (some ⟨w.heap.size + 1 + 1, 0, none⟩), undef, .pointer (some ⟨X, 0, none⟩), .slice A1 on.length c1, .int .i64 on.length, .slice A0 pts.length c0, .int .i64 pts.length, .bool false, .slice A2 es.length c2, .slice A0 pts.length c0, .int .i64 pts.length, .func (.func 55) #[] #[.pointer (some ⟨w.heap.size + 1 + 1 + 1, 0, none⟩), .pointer (some ⟨w.heap.size + 1 + 1 + 1 + 1, 0, none⟩)], .int .i64 k, .agg #[.int .i64 c.1, .int .i64 c.2], undef, undef, undef, undef, undef, undef, undef, undef, undef, undef, undef, undef, undef, undef, undef, undef, undef, undef, undef, undef, undef, undef], []⟩ ∧ V.heap.size ≤ X ∧ Blks [(X, .cells #[.int .i64 c.1, .int .i64 c.2] 64 (0, 0))] V') ?_ ?_ ?_ ?_ ?_
 ·
  rintro k own Va Vb ⟨h1, h2, ⟨v, h3, h4⟩, h5, h6⟩ hc
  refine ⟨h1, h2, ⟨v, h3.chg hc ?_, S_chg h4 hc (fun k hk hs => hs.2 hk.1)⟩, h5.trans (hc.below (Nat.le_trans (by omega) h5.size) (fun i hi h => by omega)), Nat.le_trans h6 hc.size⟩
  intro b hb hs
  simp at hb
  omega
 ·
  rintro c k own V1 V2 h hc
  exact h
 ·
  rintro k W args ⟨c, _, rfl⟩
  rfl
 ·
  rintro b rfl
  refine ⟨by omega, fun hr => ?_⟩
  rcases hr with ⟨h0, ad, rfl, hr⟩ | hr | hr
  ·
   obtain ⟨ad', e, hx⟩ := Kd.at_int hes 0 (by omega) (by omega)
   cases e
   have := World.block_lt_of_cell? w _ hx
   rw [add_block] at this
   omega
  ·
   omega
  ·
   omega
 ·
  exact ⟨rfl, fun b hb => .inl hb, ⟨_, (hB.tail).tail, Kd.S_nil _ _ _ _ _⟩, hbw, Nat.le_refl _⟩
 ·
  rintro lc k own a' Va o o' hlc ⟨c, X, q1, q2, q3, q4⟩ ho hcells
  exact ⟨c, X, q1, q2, q3, q4.put_ (by simp [Obj.isCells]) ho hcells⟩
 ·
  rintro lc n k own args Va hlc ⟨h1, h2, ⟨v, h3, h4⟩, h5, h6⟩ how hlt hno hk ⟨c, hkc, rfl⟩ _
  generalize hQ : Exit.then _ _ = Q0
  gi_wp2
  subst hQ
  show ∃ own', _
  exact ⟨own, GrowG.refl _ _ _, fun b hb => Nat.lt_of_lt_of_le (how b hb) (by simp), (Chg.refl _ _).alloc _, ⟨h1, h2, ⟨v, (h3.alloc _).tail, S_chg h4 ((Chg.refl (fun _ => False) _).alloc _) (fun _ _ => id)⟩, h5.alloc h5.size _, by simp; omega⟩, c, Va.heap.size, hkc, rfl, h6, (Blks.nil _).alloc _⟩
 ·
  rintro lc n k own a' Va hlc ⟨h1, h2, ⟨v, h3, h4⟩, h5, h6⟩ how ⟨rl, hrl⟩ hno hk ⟨c, X, hkc, rfl, hX, hBX⟩
  obtain ⟨m1, m2, m3⟩ := cutsF_mem es pts.length 0 k c hkc
  have hnext : linesK pts on es (k + 1) = linesK pts on es k ++ [contourLines pts on c.1.toNat c.2.toNat] := by simp [linesK, List.take_add_one, hkc]
  obtain ⟨s, hs⟩ : ∃ s : Nat, c.1 = s := ⟨c.1.toNat, by omega⟩
  obtain ⟨t, ht⟩ : ∃ t : Nat, c.2 = t := ⟨c.2.toNat, by omega⟩
  have hlk := linesK_len pts on es k (by omega)
  obtain ⟨Av, cv, rfl⟩ := Kd.S_slice h4
  rw [hlk] at h3 h4
  rw [hs, ht] at hBX hnext m2
  rw [ht] at m3
  rw [hs, ht]
  simp only [Int.toNat_natCast] at hnext
  have hst : s < t := by omega
  have htn : t ≤ pts.length := by omega
  have hton : t ≤ on.length := by rw [HON.out]; exact htn
  clear hs ht m1 m2 m3 hkc
  obtain ⟨ad0, rfl⟩ : ∃ ad, A0 = some ad := by obtain ⟨ad, h, _⟩ := hp.2.2 (by omega); exact ⟨ad, h⟩
  obtain ⟨ad1, rfl⟩ : ∃ ad, A1 = some ad := by obtain ⟨ad, h, _⟩ := ho.2.2 (by omega); exact ⟨ad, h⟩
  obtain ⟨ps, hps0⟩ : ∃ ps, (pts.drop s).take (t - s) = ps := ⟨_, rfl⟩
  obtain ⟨os, hos0⟩ : ∃ os, (on.drop s).take (t - s) = os := ⟨_, rfl⟩
  have hpl : ps.length = t - s := by rw [← hps0, List.length_take, List.length_drop]; omega
  have hol : os.length = t - s := by rw [← hos0, List.length_take, List.length_drop]; omega
  have hps : Kd.C k52 w (some (ad0.add (s * 2))) (t - s) ps := by
   have hA := Kd.C_drop (c := c0) hp (show s ≤ pts.length by omega) hc0
   rw [if_neg (by omega)] at hA
   have := Kd.C_take hA (show t - s ≤ (pts.drop s).length by rw [List.length_drop]; omega)
   rw [hps0, hpl] at this
   exact this
  have hos : Kd.C Kd.bool w (some (ad1.add s)) (t - s) os := by
   have hA := Kd.C_drop (c := c1) ho (show s ≤ on.length by omega) hc1
   rw [if_neg (by omega)] at hA
   have := Kd.C_take hA (show t - s ≤ (on.drop s).length by rw [List.length_drop]; omega)
   rw [hos0, hol] at this
   have e1 : s * Kd.bool.sz = s := Nat.mul_one s
   rw [e1] at this
   exact this
  obtain ⟨rg, hrg⟩ : ∃ rg, ringFin (ringSt ps os (t - s)) = rg := ⟨_, rfl⟩
  have hrgl : rg.length = (ringSt ps os (t - s)).1.length := by rw [← hrg]; exact ringFin_len _ _ _
  have hrg1 := ringSt_ge ps os (t - s)
  have hrg2 := ringSt_len ps os (t - s)
  have hrpos : 0 < rg.length := by omega
  have hrlim : rg.length ≤ 3000000 := by omega
  obtain ⟨rw_, hrw⟩ : ∃ r, rowL rg = r := ⟨_, rfl⟩
  have hcl : contourLines pts on s t = rw_ := by unfold contourLines; rw [hps0, hos0, hrg, hrw]
  rw [hcl] at hnext
  obtain ⟨rows, hrows⟩ : ∃ rows, linesK pts on es k = rows := ⟨_, rfl⟩
  rw [hrows] at h4 hlk hnext
  have hklen : rows.length ≤ 1000000 := by have := lines_cuts_len es pts.length 0; unfold cutsL at hk; omega
  have hrowsown : ∀ b, (Value.slice Av k cv).ownBlock = some b → own b ∧ b ≠ w.heap.size + 1 + 1 := fun b e => by
   obtain ⟨_, hr⟩ := h4
   exact hr.1 b e
  have hus := Try.underlying42
  have hub := Try.underlying43
  have hu64 := Try.underlying64
  have hse : s ≤ t := by omega
  have hec : t ≤ c0 := by omega
  have hec1 : t ≤ c1 := by omega
  have hsc : ¬ (t = s) := by omega
  have hsc2 : ¬ (t - s = 0) := by omega
  have hB4 : Blks [(X, .cells #[.int .i64 s, .int .i64 t] 64 (0, 0)), (w.heap.size + 1 + 1, .cells #[.slice Av k cv] 45 (0, 0)), (w.heap.size + 1, .cells #[.slice (some ad1) on.length c1] 43 (0, 0)), (w.heap.size, .cells #[.slice (some ad0) pts.length c0] 42 (0, 0))] Va := h3.add (hBX.blk 0 rfl) (by simp; omega)
  have hapart : ∀ b, b ∈ ([X, w.heap.size + 1 + 1, w.heap.size + 1, w.heap.size] : List Nat) → (Value.slice Av k cv).ownBlock = some b → False := by
   intro b hb e
   obtain ⟨q1, q2⟩ := hrowsown b e
   rcases h2 b q1 with h | h
   ·
    exact q2 h
   ·
    have hbX : b = X := by simp at hb; omega
    subst hbX
    obtain ⟨cs, h8⟩ := Kd.S_typed h4 b e
    rw [hBX.blk 0 rfl] at h8
    injection h8 with h8
    injection h8 with _ h8
    cases h8
  have HH := Lib.hid (And.intro hnext hrows)
  clear hnext hrows hps0 hos0 hcl hrgl hrg1 h3 hBX
  have HB := hB4
  have HS := h4
  clear hB4 h4 hlk
  gi_wp2
  refine Go.Proofs.YtbmklpcheopgoaaReg.regIn_inv (by rfl) [0, 1, 2, 3, 4, 5, 6, 7, 8, 9, 10, 11, 12, 13, 14, 15, 16, 17, 18, 19, 20, 21] (by kernel_rfl) (by kernel_rfl)
   (fun lst a W' => ∃ d : LinesReg6, lst = #[d.b0, d.b1, d.b2, d.b3, d.b4, d.b5, d.b6, d.b7, d.b8, d.b9, d.b10, d.b11, d.b12, d.b13, d.b14, d.b15, d.b16, d.b17, d.b18, d.b19, d.b20, d.b21] ∧ a = ⟨#[.slice (some ad0) pts.length c0, .slice (some ad1) on.length c1, .slice A2 es.length c2, .pointer (some ⟨w.heap.size, 0, none⟩), .pointer (some ⟨w.heap.size + 1, 0, none⟩), undef, .slice none 0 0, .pointer (some ⟨w.heap.size + 1 + 1, 0, none⟩), undef, .pointer (some ⟨X, 0, none⟩), .slice (some ad1) on.length c1, .int .i64 on.length, .slice (some ad0) pts.length c0, .int .i64 pts.length, .bool false, .slice A2 es.length c2, .slice (some ad0) pts.length c0, .int .i64 pts.length, .func (.func 55) #[] #[.pointer (some ⟨w.heap.size + 1 + 1 + 1, 0, none⟩), .pointer (some ⟨w.heap.size + 1 + 1 + 1 + 1, 0, none⟩)], .int .i64 k, .agg #[.int .i64 s, .int .i64 t], (cond d.b0 (.slice Av k cv) undef), (cond d.b1 (.slice (some ad0) pts.length c0) undef), (cond d.b2 (.pointer (some ⟨X, 0, none⟩)) undef), (cond d.b3 (.int .i64 s) undef), (cond d.b4 (.pointer (some ⟨X, 1, none⟩)) undef), (cond d.b5 (.int .i64 t) undef), (cond d.b6 (.pointer (some ⟨X, 1, none⟩)) undef), (cond d.b7 (.int .i64 t) undef), (cond d.b8 (.slice (some (ad0.add (s * 2))) (t - s) (t - s)) undef), (cond d.b9 (.slice (some ad1) on.length c1) undef), (cond d.b10 (.pointer (some ⟨X, 0, none⟩)) undef), (cond d.b11 (.int .i64 s) undef), (cond d.b12 (.pointer (some ⟨X, 1, none⟩)) undef), (cond d.b13 (.int .i64 t) undef), (cond d.b14 (.pointer (some ⟨X, 1, none⟩)) undef), (cond d.b15 (.int .i64 t) undef), (cond d.b16 (.slice (some (ad1.add s)) (t - s) (t - s)) undef), (cond d.b17 d.VR undef), (cond d.b18 d.VQ undef), (cond d.b19 (.slice (some ⟨d.gH, 0, none⟩) 1 1) undef), (cond d.b20 d.V1 undef), undef], []⟩ ∧ (d.b18 = true → d.b17 = true) ∧ (d.b19 = true → d.b18 = true) ∧ (d.b20 = true → d.b17 = true) ∧ (d.b20 = true → d.b18 = true) ∧ (d.b20 = true → d.b19 = true) ∧ (d.b21 = true → d.b0 = true) ∧ (d.b21 = true → d.b20 = true) ∧ (Blks [(X, .cells #[.int .i64 s, .int .i64 t] 64 (0, 0)), (w.heap.size + 1 + 1, .cells #[cond d.b21 d.V1 (.slice Av k cv)] 45 (0, 0)), (w.heap.size + 1, .cells #[.slice (some ad1) on.length c1] 43 (0, 0)), (w.heap.size, .cells #[.slice (some ad0) pts.length c0] 42 (0, 0))] W') ∧ (d.b20 = false → Kd.S (Kd.slice 52 k52) 42 W' w.heap.size (fun b => own b ∧ b ≠ w.heap.size + 1 + 1) (.slice Av k cv) rows) ∧ (d.b20 = true → Kd.S (Kd.slice 52 k52) 42 W' w.heap.size (fun b => (own b ∧ b ≠ w.heap.size + 1 + 1) ∨ Va.heap.size ≤ b) d.V1 (rows ++ [rw_])) ∧ (d.b17 = true → d.b20 = false → ∃ A c, d.VR = .slice A rg.length c ∧ rg.length ≤ c ∧ Kd.C k101 W' A rg.length rg) ∧ (d.b18 = true → d.b20 = false → Kd.R k52 52 W' Va.heap.size (Own1 d.VQ) d.VQ rw_) ∧ (d.b19 = true → d.b20 = false → W'.heap[d.gH]? = some (.cells #[d.VQ] 42 (0, 0))) ∧ (Chg own Va W') ∧ (d.b20 = true → ∃ n : Option Addr × Nat × Nat, d.V1 = .slice n.1 n.2.1 n.2.2)) ?_ ?_ ?_ ?_
  ·
   rintro lst a W' ⟨d, rfl, _⟩
   rfl
  ·
   exact ⟨⟨false, false, false, false, false, false, false, false, false, false, false, false, false, false, false, false, false, false, false, false, false, false, undef, undef, 0, undef⟩, rfl, rfl, (fun h => Bool.noConfusion h), (fun h => Bool.noConfusion h), (fun h => Bool.noConfusion h), (fun h => Bool.noConfusion h), (fun h => Bool.noConfusion h), (fun h => Bool.noConfusion h), (fun h => Bool.noConfusion h), HB.drew, (fun _ => S_chg HS ((Chg.refl (fun _ => False) _).drew) (fun _ _ => id)), (fun h => Bool.noConfusion h), (fun h => Bool.noConfusion h), (fun h => Bool.noConfusion h), (fun h => Bool.noConfusion h), ((Chg.refl own Va).drew), (fun h => Bool.noConfusion h)⟩
  ·
   rintro lst a W' i o ⟨⟨b0, b1, b2, b3, b4, b5, b6, b7, b8, b9, b10, b11, b12, b13, b14, b15, b16, b17, b18, b19, b20, b21, VR, VQ, gH, V1⟩, rfl, rfl, k0, k1, k2, k3, k4, k5, k6, hHB, hHS0, hHS1, hHR, hHQ, hHX, hHC, hHN⟩ ho hf hd K hK
   dsimp only at k0 k1 k2 k3 k4 k5 k6 hHB hHS0 hHS1 hHR hHQ hHX hHC hHN
   have hi : i < 22 := (Array.getElem?_eq_some_iff.1 ho).1
   have ho2 := ho
   rcases (show i = 0 ∨ i = 1 ∨ i = 2 ∨ i = 3 ∨ i = 4 ∨ i = 5 ∨ i = 6 ∨ i = 7 ∨ i = 8 ∨ i = 9 ∨ i = 10 ∨ i = 11 ∨ i = 12 ∨ i = 13 ∨ i = 14 ∨ i = 15 ∨ i = 16 ∨ i = 17 ∨ i = 18 ∨ i = 19 ∨ i = 20 ∨ i = 21 by omega) with rfl | rfl | rfl | rfl | rfl | rfl | rfl | rfl | rfl | rfl | rfl | rfl | rfl | rfl | rfl | rfl | rfl | rfl | rfl | rfl | rfl | rfl
   ·
    simp only [List.getElem?_toArray, List.getElem?_cons_succ, List.getElem?_cons_zero, Option.some.injEq] at ho
    subst ho
    replace hf : b0 = false := hf
    have n21 : b21 = false := Bool.eq_false_iff.mpr (fun h => absurd (k5 h) (by rw [hf]; decide))
    subst n21
    subst hf
    refine Go.Proofs.YtbmklpcheopgoaaReg.opIn_val ho2 rfl (fun _ => trivial) (fun c h => by cases h) (v := .slice Av k cv) (w1 := W') ?_ (hK _ _ ⟨⟨true, b1, b2, b3, b4, b5, b6, b7, b8, b9, b10, b11, b12, b13, b14, b15, b16, b17, b18, b19, b20, false, VR, VQ, gH, V1⟩, rfl, rfl, (k0), (k1), (k2), (k3), (k4), (fun _ => rfl), (fun h => Bool.noConfusion h), hHB, hHS0, hHS1, hHR, hHQ, hHX, hHC, hHN⟩)
    simp [go_sem, Blks.cell hHB 1 rfl 0]
   ·
    simp only [List.getElem?_toArray, List.getElem?_cons_succ, List.getElem?_cons_zero, Option.some.injEq] at ho
    subst ho
    replace hf : b1 = false := hf
    subst hf
    refine Go.Proofs.YtbmklpcheopgoaaReg.opIn_val ho2 rfl (fun _ => trivial) (fun c h => by cases h) (v := .slice (some ad0) pts.length c0) (w1 := W') ?_ (hK _ _ ⟨⟨b0, true, b2, b3, b4, b5, b6, b7, b8, b9, b10, b11, b12, b13, b14, b15, b16, b17, b18, b19, b20, b21, VR, VQ, gH, V1⟩, rfl, rfl, (k0), (k1), (k2), (k3), (k4), (k5), (k6), hHB, hHS0, hHS1, hHR, hHQ, hHX, hHC, hHN⟩)
    simp [go_sem, Blks.cell hHB 3 rfl 0]
   ·
    simp only [List.getElem?_toArray, List.getElem?_cons_succ, List.getElem?_cons_zero, Option.some.injEq] at ho
    subst ho
    replace hf : b2 = false := hf
    subst hf
    refine Go.Proofs.YtbmklpcheopgoaaReg.opIn_val ho2 rfl (fun _ => trivial) (fun c h => by cases h) (v := .pointer (some ⟨X, 0, none⟩)) (w1 := W') ?_ (hK _ _ ⟨⟨b0, b1, true, b3, b4, b5, b6, b7, b8, b9, b10, b11, b12, b13, b14, b15, b16, b17, b18, b19, b20, b21, VR, VQ, gH, V1⟩, rfl, rfl, (k0), (k1), (k2), (k3), (k4), (k5), (k6), hHB, hHS0, hHS1, hHR, hHQ, hHX, hHC, hHN⟩)
    simp [go_sem, hu64]
   ·
    simp only [List.getElem?_toArray, List.getElem?_cons_succ, List.getElem?_cons_zero, Option.some.injEq] at ho
    subst ho
    replace hf : b3 = false := hf
    have d2 : b2 = true := hd ⟨2, .data⟩ (by simp) rfl
    subst d2
    subst hf
    refine Go.Proofs.YtbmklpcheopgoaaReg.opIn_val ho2 rfl (fun _ => trivial) (fun c h => by cases h) (v := .int .i64 s) (w1 := W') ?_ (hK _ _ ⟨⟨b0, b1, true, true, b4, b5, b6, b7, b8, b9, b10, b11, b12, b13, b14, b15, b16, b17, b18, b19, b20, b21, VR, VQ, gH, V1⟩, rfl, rfl, (k0), (k1), (k2), (k3), (k4), (k5), (k6), hHB, hHS0, hHS1, hHR, hHQ, hHX, hHC, hHN⟩)
    simp [go_sem, Blks.cell hHB 0 rfl 0]
   ·
    simp only [List.getElem?_toArray, List.getElem?_cons_succ, List.getElem?_cons_zero, Option.some.injEq] at ho
    subst ho
    replace hf : b4 = false := hf
    subst hf
    refine Go.Proofs.YtbmklpcheopgoaaReg.opIn_val ho2 rfl (fun _ => trivial) (fun c h => by cases h) (v := .pointer (some ⟨X, 1, none⟩)) (w1 := W') ?_ (hK _ _ ⟨⟨b0, b1, b2, b3, true, b5, b6, b7, b8, b9, b10, b11, b12, b13, b14, b15, b16, b17, b18, b19, b20, b21, VR, VQ, gH, V1⟩, rfl, rfl, (k0), (k1), (k2), (k3), (k4), (k5), (k6), hHB, hHS0, hHS1, hHR, hHQ, hHX, hHC, hHN⟩)
    simp [go_sem, hu64]
   ·
    simp only [List.getElem?_toArray, List.getElem?_cons_succ, List.getElem?_cons_zero, Option.some.injEq] at ho
    subst ho
    replace hf : b5 = false := hf
    have d4 : b4 = true := hd ⟨4, .data⟩ (by simp) rfl
    subst d4
    subst hf
    refine Go.Proofs.YtbmklpcheopgoaaReg.opIn_val ho2 rfl (fun _ => trivial) (fun c h => by cases h) (v := .int .i64 t) (w1 := W') ?_ (hK _ _ ⟨⟨b0, b1, b2, b3, true, true, b6, b7, b8, b9, b10, b11, b12, b13, b14, b15, b16, b17, b18, b19, b20, b21, VR, VQ, gH, V1⟩, rfl, rfl, (k0), (k1), (k2), (k3), (k4), (k5), (k6), hHB, hHS0, hHS1, hHR, hHQ, hHX, hHC, hHN⟩)
    simp [go_sem, Blks.cell hHB 0 rfl 1]
   ·
    simp only [List.getElem?_toArray, List.getElem?_cons_succ, List.getElem?_cons_zero, Option.some.injEq] at ho
    subst ho
    replace hf : b6 = false := hf
    subst hf
    refine Go.Proofs.YtbmklpcheopgoaaReg.opIn_val ho2 rfl (fun _ => trivial) (fun c h => by cases h) (v := .pointer (some ⟨X, 1, none⟩)) (w1 := W') ?_ (hK _ _ ⟨⟨b0, b1, b2, b3, b4, b5, true, b7, b8, b9, b10, b11, b12, b13, b14, b15, b16, b17, b18, b19, b20, b21, VR, VQ, gH, V1⟩, rfl, rfl, (k0), (k1), (k2), (k3), (k4), (k5), (k6), hHB, hHS0, hHS1, hHR, hHQ, hHX, hHC, hHN⟩)
    simp [go_sem, hu64]
   ·
    simp only [List.getElem?_toArray, List.getElem?_cons_succ, List.getElem?_cons_zero, Option.some.injEq] at ho
    subst ho
    replace hf : b7 = false := hf
    have d6 : b6 = true := hd ⟨6, .data⟩ (by simp) rfl
    subst d6
    subst hf
    refine Go.Proofs.YtbmklpcheopgoaaReg.opIn_val ho2 rfl (fun _ => trivial) (fun c h => by cases h) (v := .int .i64 t) (w1 := W') ?_ (hK _ _ ⟨⟨b0, b1, b2, b3, b4, b5, true, true, b8, b9, b10, b11, b12, b13, b14, b15, b16, b17, b18, b19, b20, b21, VR, VQ, gH, V1⟩, rfl, rfl, (k0), (k1), (k2), (k3), (k4), (k5), (k6), hHB, hHS0, hHS1, hHR, hHQ, hHX, hHC, hHN⟩)
    simp [go_sem, Blks.cell hHB 0 rfl 1]
   ·
    simp only [List.getElem?_toArray, List.getElem?_cons_succ, List.getElem?_cons_zero, Option.some.injEq] at ho
    subst ho
    replace hf : b8 = false := hf
    have d1 : b1 = true := hd ⟨1, .data⟩ (by simp) rfl
    have d3 : b3 = true := hd ⟨3, .data⟩ (by simp) rfl
    have d5 : b5 = true := hd ⟨5, .data⟩ (by simp) rfl
    have d7 : b7 = true := hd ⟨7, .data⟩ (by simp) rfl
    subst d1
    subst d3
    subst d5
    subst d7
    subst hf
    refine Go.Proofs.YtbmklpcheopgoaaReg.opIn_val ho2 rfl (fun _ => trivial) (fun c h => by cases h) (v := .slice (some (ad0.add (s * 2))) (t - s) (t - s)) (w1 := W') ?_ (hK _ _ ⟨⟨b0, true, b2, true, b4, true, b6, true, true, b9, b10, b11, b12, b13, b14, b15, b16, b17, b18, b19, b20, b21, VR, VQ, gH, V1⟩, rfl, rfl, (k0), (k1), (k2), (k3), (k4), (k5), (k6), hHB, hHS0, hHS1, hHR, hHQ, hHX, hHC, hHN⟩)
    simp [go_sem, hus, hse, hec, hsc, hsc2]
   ·
    simp only [List.getElem?_toArray, List.getElem?_cons_succ, List.getElem?_cons_zero, Option.some.injEq] at ho
    subst ho
    replace hf : b9 = false := hf
    subst hf
    refine Go.Proofs.YtbmklpcheopgoaaReg.opIn_val ho2 rfl (fun _ => trivial) (fun c h => by cases h) (v := .slice (some ad1) on.length c1) (w1 := W') ?_ (hK _ _ ⟨⟨b0, b1, b2, b3, b4, b5, b6, b7, b8, true, b10, b11, b12, b13, b14, b15, b16, b17, b18, b19, b20, b21, VR, VQ, gH, V1⟩, rfl, rfl, (k0), (k1), (k2), (k3), (k4), (k5), (k6), hHB, hHS0, hHS1, hHR, hHQ, hHX, hHC, hHN⟩)
    simp [go_sem, Blks.cell hHB 2 rfl 0]
   ·
    simp only [List.getElem?_toArray, List.getElem?_cons_succ, List.getElem?_cons_zero, Option.some.injEq] at ho
    subst ho
    replace hf : b10 = false := hf
    subst hf
    refine Go.Proofs.YtbmklpcheopgoaaReg.opIn_val ho2 rfl (fun _ => trivial) (fun c h => by cases h) (v := .pointer (some ⟨X, 0, none⟩)) (w1 := W') ?_ (hK _ _ ⟨⟨b0, b1, b2, b3, b4, b5, b6, b7, b8, b9, true, b11, b12, b13, b14, b15, b16, b17, b18, b19, b20, b21, VR, VQ, gH, V1⟩, rfl, rfl, (k0), (k1), (k2), (k3), (k4), (k5), (k6), hHB, hHS0, hHS1, hHR, hHQ, hHX, hHC, hHN⟩)
    simp [go_sem, hu64]
   ·
    simp only [List.getElem?_toArray, List.getElem?_cons_succ, List.getElem?_cons_zero, Option.some.injEq] at ho
    subst ho
    replace hf : b11 = false := hf
    have d10 : b10 = true := hd ⟨10, .data⟩ (by simp) rfl
    subst d10
    subst hf
    refine Go.Proofs.YtbmklpcheopgoaaReg.opIn_val ho2 rfl (fun _ => trivial) (fun c h => by cases h) (v := .int .i64 s) (w1 := W') ?_ (hK _ _ ⟨⟨b0, b1, b2, b3, b4, b5, b6, b7, b8, b9, true, true, b12, b13, b14, b15, b16, b17, b18, b19, b20, b21, VR, VQ, gH, V1⟩, rfl, rfl, (k0), (k1), (k2), (k3), (k4), (k5), (k6), hHB, hHS0, hHS1, hHR, hHQ, hHX, hHC, hHN⟩)
    simp [go_sem, Blks.cell hHB 0 rfl 0]
   ·
    simp only [List.getElem?_toArray, List.getElem?_cons_succ, List.getElem?_cons_zero, Option.some.injEq] at ho
    subst ho
    replace hf : b12 = false := hf
    subst hf
    refine Go.Proofs.YtbmklpcheopgoaaReg.opIn_val ho2 rfl (fun _ => trivial) (fun c h => by cases h) (v := .pointer (some ⟨X, 1, none⟩)) (w1 := W') ?_ (hK _ _ ⟨⟨b0, b1, b2, b3, b4, b5, b6, b7, b8, b9, b10, b11, true, b13, b14, b15, b16, b17, b18, b19, b20, b21, VR, VQ, gH, V1⟩, rfl, rfl, (k0), (k1), (k2), (k3), (k4), (k5), (k6), hHB, hHS0, hHS1, hHR, hHQ, hHX, hHC, hHN⟩)
    simp [go_sem, hu64]
   ·
    simp only [List.getElem?_toArray, List.getElem?_cons_succ, List.getElem?_cons_zero, Option.some.injEq] at ho
    subst ho
    replace hf : b13 = false := hf
    have d12 : b12 = true := hd ⟨12, .data⟩ (by simp) rfl
    subst d12
    subst hf
    refine Go.Proofs.YtbmklpcheopgoaaReg.opIn_val ho2 rfl (fun _ => trivial) (fun c h => by cases h) (v := .int .i64 t) (w1 := W') ?_ (hK _ _ ⟨⟨b0, b1, b2, b3, b4, b5, b6, b7, b8, b9, b10, b11, true, true, b14, b15, b16, b17, b18, b19, b20, b21, VR, VQ, gH, V1⟩, rfl, rfl, (k0), (k1), (k2), (k3), (k4), (k5), (k6), hHB, hHS0, hHS1, hHR, hHQ, hHX, hHC, hHN⟩)
    simp [go_sem, Blks.cell hHB 0 rfl 1]
   ·
    simp only [List.getElem?_toArray, List.getElem?_cons_succ, List.getElem?_cons_zero, Option.some.injEq] at ho
    subst ho
    replace hf : b14 = false := hf
    subst hf
    refine Go.Proofs.YtbmklpcheopgoaaReg.opIn_val ho2 rfl (fun _ => trivial) (fun c h => by cases h) (v := .pointer (some ⟨X, 1, none⟩)) (w1 := W') ?_ (hK _ _ ⟨⟨b0, b1, b2, b3, b4, b5, b6, b7, b8, b9, b10, b11, b12, b13, true, b15, b16, b17, b18, b19, b20, b21, VR, VQ, gH, V1⟩, rfl, rfl, (k0), (k1), (k2), (k3), (k4), (k5), (k6), hHB, hHS0, hHS1, hHR, hHQ, hHX, hHC, hHN⟩)
    simp [go_sem, hu64]
   ·
    simp only [List.getElem?_toArray, List.getElem?_cons_succ, List.getElem?_cons_zero, Option.some.injEq] at ho
    subst ho
    replace hf : b15 = false := hf
    have d14 : b14 = true := hd ⟨14, .data⟩ (by simp) rfl
    subst d14
    subst hf
    refine Go.Proofs.YtbmklpcheopgoaaReg.opIn_val ho2 rfl (fun _ => trivial) (fun c h => by cases h) (v := .int .i64 t) (w1 := W') ?_ (hK _ _ ⟨⟨b0, b1, b2, b3, b4, b5, b6, b7, b8, b9, b10, b11, b12, b13, true, true, b16, b17, b18, b19, b20, b21, VR, VQ, gH, V1⟩, rfl, rfl, (k0), (k1), (k2), (k3), (k4), (k5), (k6), hHB, hHS0, hHS1, hHR, hHQ, hHX, hHC, hHN⟩)
    simp [go_sem, Blks.cell hHB 0 rfl 1]
   ·
    simp only [List.getElem?_toArray, List.getElem?_cons_succ, List.getElem?_cons_zero, Option.some.injEq] at ho
    subst ho
    replace hf : b16 = false := hf
    have d9 : b9 = true := hd ⟨9, .data⟩ (by simp) rfl
    have d11 : b11 = true := hd ⟨11, .data⟩ (by simp) rfl
    have d13 : b13 = true := hd ⟨13, .data⟩ (by simp) rfl
    have d15 : b15 = true := hd ⟨15, .data⟩ (by simp) rfl
    subst d9
    subst d11
    subst d13
    subst d15
    subst hf
    refine Go.Proofs.YtbmklpcheopgoaaReg.opIn_val ho2 rfl (fun _ => trivial) (fun c h => by cases h) (v := .slice (some (ad1.add s)) (t - s) (t - s)) (w1 := W') ?_ (hK _ _ ⟨⟨b0, b1, b2, b3, b4, b5, b6, b7, b8, true, b10, true, b12, true, b14, true, true, b17, b18, b19, b20, b21, VR, VQ, gH, V1⟩, rfl, rfl, (k0), (k1), (k2), (k3), (k4), (k5), (k6), hHB, hHS0, hHS1, hHR, hHQ, hHX, hHC, hHN⟩)
    simp [go_sem, hub, hse, hec1, hsc, hsc2]
   ·
    simp only [List.getElem?_toArray, List.getElem?_cons_succ, List.getElem?_cons_zero, Option.some.injEq] at ho
    subst ho
    replace hf : b17 = false := hf
    have d8 : b8 = true := hd ⟨8, .data⟩ (by simp) rfl
    have d16 : b16 = true := hd ⟨16, .data⟩ (by simp) rfl
    subst d8
    subst d16
    have n18 : b18 = false := Bool.eq_false_iff.mpr (fun h => absurd (k0 h) (by rw [hf]; decide))
    have n19 : b19 = false := Bool.eq_false_iff.mpr (fun h => absurd (k1 h) (by rw [n18]; decide))
    have n20 : b20 = false := Bool.eq_false_iff.mpr (fun h => absurd (k2 h) (by rw [hf]; decide))
    have n21 : b21 = false := Bool.eq_false_iff.mpr (fun h => absurd (k6 h) (by rw [n20]; decide))
    subst n18
    subst n19
    subst n20
    subst n21
    subst hf
    refine Go.Proofs.YtbmklpcheopgoaaReg.opIn_wp ho2 rfl (op_callIn Try.func49 (by kernel_rfl) rfl #[.slice (some (ad0.add (s * 2))) (t - s) (t - s), .slice (some (ad1.add s)) (t - s) (t - s)] rfl (by simp only [List.map_toArray, List.map_cons, List.map_nil]; rfl) rfl (fun _ => trivial) ?_)
    have hbW : Below w.heap.size w W' := h5.trans (hHC.below (B := w.heap.size) h5.size (fun i hi h => by have := h2 i h; omega))
    have hcal := ring_calls (some (ad0.add (s * 2))) (t - s) ps (some (ad1.add s)) (t - s) os W' (by rw [hpl]; exact Kd.C_below hps hbW) (by omega) (by rw [hol]; exact Kd.C_below hos hbW) (by omega) (by omega) (by omega)
    rw [hpl, hol, hrg] at hcal
    refine CallsIn.mono (CallsIn.inRound lc (callsIn_wide.2 hcal)) ?_
    rintro e1 w2 ⟨Ar, cr, rfl, q2, q3, hbn⟩
    exact ⟨_, rfl, (hK _ _ ⟨⟨b0, b1, b2, b3, b4, b5, b6, b7, true, b9, b10, b11, b12, b13, b14, b15, true, true, false, false, false, false, (.slice Ar rg.length cr), VQ, gH, V1⟩, rfl, rfl, (fun _ => rfl), (fun h => Bool.noConfusion h), (fun _ => rfl), (fun h => Bool.noConfusion h), (fun h => Bool.noConfusion h), (fun h => Bool.noConfusion h), (fun h => Bool.noConfusion h), (hHB.below hbn), (fun h => S_chg (hHS0 h) (Chg.of_fresh (S := fun _ => False) hbn) (fun _ _ => id)), (fun h => S_chg (hHS1 h) (Chg.of_fresh (S := fun _ => False) hbn) (fun _ _ => id)), (fun _ _ => ⟨Ar, cr, rfl, q2, q3⟩), (fun h h' => R_chg (hHQ h h') (Chg.of_fresh (S := fun _ => False) hbn) (fun _ _ => id)), (fun h h' => (Chg.of_fresh (S := fun _ => False) hbn).heap (hHX h h') id), (hHC.trans (Chg.of_fresh hbn)), hHN⟩)⟩
   ·
    simp only [List.getElem?_toArray, List.getElem?_cons_succ, List.getElem?_cons_zero, Option.some.injEq] at ho
    subst ho
    replace hf : b18 = false := hf
    have d17 : b17 = true := hd ⟨17, .data⟩ (by simp) rfl
    subst d17
    have n19 : b19 = false := Bool.eq_false_iff.mpr (fun h => absurd (k1 h) (by rw [hf]; decide))
    have n20 : b20 = false := Bool.eq_false_iff.mpr (fun h => absurd (k3 h) (by rw [hf]; decide))
    have n21 : b21 = false := Bool.eq_false_iff.mpr (fun h => absurd (k6 h) (by rw [n20]; decide))
    subst n19
    subst n20
    subst n21
    subst hf
    obtain ⟨Ar, cr, rfl, q2, q3⟩ := hHR rfl rfl
    refine Go.Proofs.YtbmklpcheopgoaaReg.opIn_wp ho2 rfl (op_callIn Try.func48 (by kernel_rfl) rfl #[.slice Ar rg.length cr] rfl (by simp only [List.map_toArray, List.map_cons, List.map_nil]; rfl) rfl (fun _ => trivial) ?_)
    have hcal := row_calls Ar cr rg W' q3 q2 hrpos (by omega)
    rw [hrw] at hcal
    refine CallsIn.mono (CallsIn.inRound lc (callsIn_wide.2 hcal)) ?_
    rintro e1 w2 ⟨vq, rfl, hRq, hbn⟩
    exact ⟨_, rfl, (hK _ _ ⟨⟨b0, b1, b2, b3, b4, b5, b6, b7, b8, b9, b10, b11, b12, b13, b14, b15, b16, true, true, false, false, false, (.slice Ar rg.length cr), vq, gH, V1⟩, rfl, rfl, (fun _ => rfl), (fun _ => rfl), (fun _ => rfl), (fun _ => rfl), (fun h => Bool.noConfusion h), (fun h => Bool.noConfusion h), (fun h => Bool.noConfusion h), (hHB.below hbn), (fun h => S_chg (hHS0 h) (Chg.of_fresh (S := fun _ => False) hbn) (fun _ _ => id)), (fun h => S_chg (hHS1 h) (Chg.of_fresh (S := fun _ => False) hbn) (fun _ _ => id)), (fun _ _ => ⟨Ar, cr, rfl, q2, Kd.C_below q3 hbn⟩), (fun _ _ => Kd.R_lower (R_own1 flat_pt2 hRq) hHC.size), (fun h _ => Bool.noConfusion h), (hHC.trans (Chg.of_fresh hbn)), hHN⟩)⟩
   ·
    simp only [List.getElem?_toArray, List.getElem?_cons_succ, List.getElem?_cons_zero, Option.some.injEq] at ho
    subst ho
    replace hf : b19 = false := hf
    have d18 : b18 = true := hd ⟨18, .data⟩ (by simp) rfl
    have d17 : b17 = true := k0 d18
    subst d17
    subst d18
    have n20 : b20 = false := Bool.eq_false_iff.mpr (fun h => absurd (k4 h) (by rw [hf]; decide))
    have n21 : b21 = false := Bool.eq_false_iff.mpr (fun h => absurd (k6 h) (by rw [n20]; decide))
    subst n20
    subst n21
    subst hf
    obtain ⟨Aq, cq, hvq⟩ := Kd.R_slice (hHQ rfl rfl)
    have hbn : Below W'.heap.size W' (W'.alloc (.cells #[VQ] 42)) := (Below.refl _ _).alloc (Nat.le_refl _) _
    refine Go.Proofs.YtbmklpcheopgoaaReg.opIn_val ho2 rfl (fun _ => trivial) (fun c h => by cases h) (v := .slice (some ⟨(W'.heap.size), 0, none⟩) 1 1) (w1 := W'.alloc (.cells #[VQ] 42)) ?_ (hK _ _ ⟨⟨b0, b1, b2, b3, b4, b5, b6, b7, b8, b9, b10, b11, b12, b13, b14, b15, b16, true, true, true, false, false, VR, VQ, W'.heap.size, V1⟩, rfl, rfl, (fun _ => rfl), (fun _ => rfl), (fun _ => rfl), (fun _ => rfl), (fun _ => rfl), (fun h => Bool.noConfusion h), (fun h => Bool.noConfusion h), (hHB.below hbn), (fun h => S_chg (hHS0 h) (Chg.of_fresh (S := fun _ => False) hbn) (fun _ _ => id)), (fun h => S_chg (hHS1 h) (Chg.of_fresh (S := fun _ => False) hbn) (fun _ _ => id)), (fun h h' => by obtain ⟨A, c, q1, q2, q3⟩ := hHR h h'; exact ⟨A, c, q1, q2, Kd.C_below q3 hbn⟩), (fun h h' => R_chg (hHQ h h') (Chg.of_fresh (S := fun _ => False) hbn) (fun _ _ => id)), (fun _ _ => blk_new W' (.cells #[VQ] 42)), (hHC.trans (Chg.of_fresh hbn)), hHN⟩)
    subst hvq
    simp [go_sem]
   ·
    simp only [List.getElem?_toArray, List.getElem?_cons_succ, List.getElem?_cons_zero, Option.some.injEq] at ho
    subst ho
    replace hf : b20 = false := hf
    have d0 : b0 = true := hd ⟨0, .data⟩ (by simp) rfl
    have d18 : b18 = true := hd ⟨18, .chain⟩ (by simp) rfl
    have d19 : b19 = true := hd ⟨19, .data⟩ (by simp) rfl
    have d17 : b17 = true := k0 d18
    subst d0
    subst d17
    subst d18
    subst d19
    have n21 : b21 = false := Bool.eq_false_iff.mpr (fun h => absurd (k6 h) (by rw [hf]; decide))
    subst n21
    subst hf
    have hVQ := Kd.R_bound (hHQ rfl rfl)
    obtain ⟨vn, wn, hrn, hSn, hgn, hatn⟩ := run_appendS (P := Try.prog) (ty := 45) (Kd.slice 52 k52) w.heap.size Try.underlying45 lines_info rfl (by decide) (by decide) (.slice Av k cv) rows rw_ [VQ] (fun b => (own b ∧ b ≠ w.heap.size + 1 + 1) ∨ Va.heap.size ≤ b) (fun b => Va.heap.size ≤ b ∧ some b = VQ.ownBlock ∧ b < W'.heap.size) ⟨gH, 0, none⟩ 1
     (fun j u hj => by rw [add_plain, blk_cell (hHX rfl rfl) j]; simpa using hj) ⟨_, rfl, Kd.R_mono (Kd.R_lower hVQ (by have := h5.size; omega)) (fun b hb => ⟨hb.2.1, hb.1, hb.2.2.1⟩)⟩
     (fun b hb => ⟨.inr hb.1, fun e => by have := how b (hrowsown b e.symm).1; omega⟩) (fun b hb => .inr (Nat.le_trans hHC.size hb))
     (Kd.S_mono (hHS0 rfl) (fun b hb => ⟨.inl hb, fun e => by have := how b hb.1; omega⟩)) (by have := hHC.size; have := h5.size; omega) (by omega)
    obtain ⟨An, cn, hvn⟩ := Kd.S_slice hSn
    refine Go.Proofs.YtbmklpcheopgoaaReg.opIn_val ho2 rfl (fun _ => trivial) (fun c h => by cases h) (v := vn) (w1 := wn) ?_ (hK _ _ ⟨⟨true, b1, b2, b3, b4, b5, b6, b7, b8, b9, b10, b11, b12, b13, b14, b15, b16, true, true, true, true, false, VR, VQ, gH, vn⟩, rfl, rfl, (fun _ => rfl), (fun _ => rfl), (fun _ => rfl), (fun _ => rfl), (fun _ => rfl), (fun _ => rfl), (fun _ => rfl), (hHB.chg (Chg.of_grownBy hgn) (fun b hb e => hapart b hb e)), (fun h => Bool.noConfusion h), (fun _ => hSn), (fun _ h => Bool.noConfusion h), (fun _ h => Bool.noConfusion h), (fun _ h => Bool.noConfusion h), (hHC.trans ((Chg.of_grownBy hgn).mono (fun b _ e => (hrowsown b e).1))), (fun _ => ⟨(An, _, cn), hvn⟩)⟩)
    exact run_app rfl rfl rfl hrn
   ·
    simp only [List.getElem?_toArray, List.getElem?_cons_succ, List.getElem?_cons_zero, Option.some.injEq] at ho
    subst ho
    replace hf : b21 = false := hf
    have d0 : b0 = true := hd ⟨0, .phase⟩ (by simp) rfl
    have d1 : b1 = true := hd ⟨1, .phase⟩ (by simp) rfl
    have d2 : b2 = true := hd ⟨2, .phase⟩ (by simp) rfl
    have d3 : b3 = true := hd ⟨3, .phase⟩ (by simp) rfl
    have d4 : b4 = true := hd ⟨4, .phase⟩ (by simp) rfl
    have d5 : b5 = true := hd ⟨5, .phase⟩ (by simp) rfl
    have d6 : b6 = true := hd ⟨6, .phase⟩ (by simp) rfl
    have d7 : b7 = true := hd ⟨7, .phase⟩ (by simp) rfl
    have d8 : b8 = true := hd ⟨8, .phase⟩ (by simp) rfl
    have d9 : b9 = true := hd ⟨9, .phase⟩ (by simp) rfl
    have d10 : b10 = true := hd ⟨10, .phase⟩ (by simp) rfl
    have d11 : b11 = true := hd ⟨11, .phase⟩ (by simp) rfl
    have d12 : b12 = true := hd ⟨12, .phase⟩ (by simp) rfl
    have d13 : b13 = true := hd ⟨13, .phase⟩ (by simp) rfl
    have d14 : b14 = true := hd ⟨14, .phase⟩ (by simp) rfl
    have d15 : b15 = true := hd ⟨15, .phase⟩ (by simp) rfl
    have d16 : b16 = true := hd ⟨16, .phase⟩ (by simp) rfl
    have d17 : b17 = true := hd ⟨17, .phase⟩ (by simp) rfl
    have d18 : b18 = true := hd ⟨18, .phase⟩ (by simp) rfl
    have d19 : b19 = true := hd ⟨19, .phase⟩ (by simp) rfl
    have d20 : b20 = true := hd ⟨20, .data⟩ (by simp) rfl
    subst d0
    subst d1
    subst d2
    subst d3
    subst d4
    subst d5
    subst d6
    subst d7
    subst d8
    subst d9
    subst d10
    subst d11
    subst d12
    subst d13
    subst d14
    subst d15
    subst d16
    subst d17
    subst d18
    subst d19
    subst d20
    subst hf
    obtain ⟨⟨na, nb, nc⟩, hvn⟩ := hHN rfl
    refine Go.Proofs.YtbmklpcheopgoaaReg.opIn_skip ho2 rfl (fun _ => trivial) (fun c h => by cases h) (w1 := W'.setCell ⟨w.heap.size + 1 + 1, 0, none⟩ V1) ?_ (hK _ _ ⟨⟨true, true, true, true, true, true, true, true, true, true, true, true, true, true, true, true, true, true, true, true, true, true, VR, VQ, gH, V1⟩, rfl, rfl, (fun _ => rfl), (fun _ => rfl), (fun _ => rfl), (fun _ => rfl), (fun _ => rfl), (fun _ => rfl), (fun _ => rfl), (hHB.set 1 rfl 0 V1), (fun h => Bool.noConfusion h), (fun h => S_chg (hHS1 h) (Chg.setCell (S := fun b => b = w.heap.size + 1 + 1) (Chg.refl _ W') (p := ⟨w.heap.size + 1 + 1, 0, none⟩) (fun _ => rfl) V1) (fun b hb e => by rcases hb with hb | hb; exact hb.2 e; omega)), (fun _ h => Bool.noConfusion h), (fun _ h => Bool.noConfusion h), (fun _ h => Bool.noConfusion h), (hHC.setCell (p := ⟨w.heap.size + 1 + 1, 0, none⟩) (fun _ => h1) V1), hHN⟩)
    subst hvn
    simp [go_sem, Blks.cell hHB 1 rfl 0, Blks.free hHB 1 rfl 0]
  ·
   rintro lst a W' ⟨⟨b0, b1, b2, b3, b4, b5, b6, b7, b8, b9, b10, b11, b12, b13, b14, b15, b16, b17, b18, b19, b20, b21, VR, VQ, gH, V1⟩, rfl, rfl, k0, k1, k2, k3, k4, k5, k6, hHB, hHS0, hHS1, hHR, hHQ, hHX, hHC, hHN⟩ hall
   dsimp only at k0 k1 k2 k3 k4 k5 k6 hHB hHS0 hHS1 hHR hHQ hHX hHC hHN
   have a0 : b0 = true := hall 0 (by decide)
   have a1 : b1 = true := hall 1 (by decide)
   have a2 : b2 = true := hall 2 (by decide)
   have a3 : b3 = true := hall 3 (by decide)
   have a4 : b4 = true := hall 4 (by decide)
   have a5 : b5 = true := hall 5 (by decide)
   have a6 : b6 = true := hall 6 (by decide)
   have a7 : b7 = true := hall 7 (by decide)
   have a8 : b8 = true := hall 8 (by decide)
   have a9 : b9 = true := hall 9 (by decide)
   have a10 : b10 = true := hall 10 (by decide)
   have a11 : b11 = true := hall 11 (by decide)
   have a12 : b12 = true := hall 12 (by decide)
   have a13 : b13 = true := hall 13 (by decide)
   have a14 : b14 = true := hall 14 (by decide)
   have a15 : b15 = true := hall 15 (by decide)
   have a16 : b16 = true := hall 16 (by decide)
   have a17 : b17 = true := hall 17 (by decide)
   have a18 : b18 = true := hall 18 (by decide)
   have a19 : b19 = true := hall 19 (by decide)
   have a20 : b20 = true := hall 20 (by decide)
   have a21 : b21 = true := hall 21 (by decide)
   subst a0 a1 a2 a3 a4 a5 a6 a7 a8 a9 a10 a11 a12 a13 a14 a15 a16 a17 a18 a19 a20 a21
   clear k0 k1 k2 k3 k4 k5 k6
   clear hall
   have HB : Blks [(X, .cells #[.int .i64 s, .int .i64 t] 64 (0, 0)), (w.heap.size + 1 + 1, .cells #[cond true V1 (.slice Av k cv)] 45 (0, 0)), (w.heap.size + 1, .cells #[.slice (some ad1) on.length c1] 43 (0, 0)), (w.heap.size, .cells #[.slice (some ad0) pts.length c0] 42 (0, 0))] W' := hHB
   have HS1 : Kd.S (Kd.slice 52 k52) 42 W' w.heap.size (fun b => (own b ∧ b ≠ w.heap.size + 1 + 1) ∨ Va.heap.size ≤ b) V1 (rows ++ [rw_]) := hHS1 rfl
   have HC : Chg own Va W' := hHC
   clear hHB hHS0 hHS1 hHR hHQ hHX hHC hHN
   have HF := Lib.hid (And.intro HB (And.intro HS1 HC))
   clear HB HS1 HC
   gi_wp2
   obtain ⟨HB, HS1, HC⟩ := HF.out
   have hsz := HC.size
   refine ⟨fun b => own b ∨ (Va.heap.size ≤ b ∧ b < W'.heap.size), ⟨fun b h => .inl h, fun b h => h.elim .inl (fun h => .inr h.1)⟩, fun b hb => hb.elim (fun h => by have := how b h; omega) (fun h => h.2), HC, .inl h1, fun b hb => hb.elim (h2 b) (fun h => .inr (by omega)), ⟨V1, HB.tail, ?_⟩, h5.trans (HC.below (B := w.heap.size) h5.size (fun i hi h => by have := h2 i h; omega)), by omega⟩
   rw [HH.out.1]
   exact Kd.S_mono (Kd.S_bound HS1) (fun b hb => by
    rcases hb.1 with h | h
    ·
     exact ⟨.inl h.1, h.2⟩
    ·
     exact ⟨.inr ⟨h, hb.2.2.1⟩, by omega⟩)
 ·
  rintro D own Va hD how hnD ⟨h1, h2, ⟨v, h3, h4⟩, h5, h6⟩ hdef
  obtain ⟨Av, cv, rfl⟩ := Kd.S_slice h4
  have g0 := h3.cell 0 rfl 0
  simp at g0
  have HH := Lib.hid (And.intro h4 (And.intro h5 h6))
  clear h3 h4 h5
  gi_wp2
  obtain ⟨h4, h5, _⟩ := HH.out
  refine leaves_collected hdef fun V2 hc => ?_
  have hS10 := S_chg h4 hc (fun k hk e => hnD (by subst e; exact hk.1))
  have hW10 := h5.trans (hc.below (B := w.heap.size) h5.size (fun i hi e => by omega))
  exact ⟨.slice Av (linesK pts on es (cutsL es pts.length).length).length cv, by simp [results, Try.f32, go_sem], _, rfl, Kd.S_mono hS10 (fun _ _ => trivial), hW10⟩
 ·
  rintro D c k own V1 _ _ _ _ h
  exact h.elim
def outline_Lines.f (l0 : List S52) (l1 : List Bool) (l2 : List Int) : Option (List (List S52)) :=
 if l1.length = l0.length then (if l0.length ≤ 1000000 ∧ l2.length ≤ 1000000 then some (linesK l0 l1 l2 (cutsL l2 l0.length).length) else none) else some []
set_option maxRecDepth 100000 in
theorem outline_Lines.calls (A0 : Option Addr) (c0 : Nat) (l0 : List (S52)) (A1 : Option Addr) (c1 : Nat) (l1 : List Bool) (A2 : Option Addr) (c2 : Nat) (l2 : List Int) (r : List (List (S52))) (w : World) (hr0 : Kd.C k52 w A0 l0.length l0) (hc0 : l0.length ≤ c0) (hr1 : Kd.C Kd.bool w A1 l1.length l1) (hc1 : l1.length ≤ c1) (hr2 : Kd.C (Kd.int .i64) w A2 l2.length l2) (hc2 : l2.length ≤ c2) (h : outline_Lines.f l0 l1 l2 = some r) :
  Calls Try.prog 32 #[.slice A0 l0.length c0, .slice A1 l1.length c1, .slice A2 l2.length c2] w fun e w' => ∃ v0_ : Value, e = .returned (v0_) ∧ Kd.S (Kd.slice 52 k52) 42 w' w.heap.size (fun _ => True) v0_ r ∧ Below w.heap.size w w' := by
 unfold outline_Lines.f at h
 by_cases he : l1.length = l0.length
 ·
  rw [if_pos he] at h
  split at h
  ·
   rename_i hl
   simp only [Option.some.injEq] at h
   subst h
   exact lines_calls A0 A1 A2 c0 c1 c2 l0 l1 l2 w hr0 hc0 hr1 hc1 hr2 hc2 hl.1 hl.2 he
  ·
   cases h
 ·
  rw [if_neg he] at h
  simp only [Option.some.injEq] at h
  subst h
  have hne : (((l1.length : Nat) : Int) != ((l0.length : Nat) : Int)) = true := by simp; omega
  have HE := Lib.hid he
  clear he
  go_enter Try.func32, Try.ntmps32
  go_wp2
  go_ret
  exact ⟨_, rfl, Kd.S_nil _ _ _ _ _, ((Below.refl _ w).alloc (Nat.le_refl _) _).alloc (by simp) _⟩
end Go.Proofs.Ytbmklpcheopgoaa.H

namespace Go.Proofs.Ytbmklpcheopgoaa.H
open Go.RowKit Go.Proofs.YtbmklpcheopgoaaW.PrintWords Go.Proofs.YtbmklpcheopgoaaW.PrintLast Go.Proofs.YtbmklpcheopgoaaW.PrintMore
attribute [local go_sem] max2_int min2_int max_two min_two max_three min_three max_four min_four
set_option linter.unusedVariables false
set_option linter.unusedSimpArgs false
theorem eqA52 (d : Nat) (w : World) (x0 y0 : Int) (x1 y1 : Int) :
  (Op.equalIn (d + 2) 52 (.agg #[.int .i64 x0, .int .i64 x1]) (.agg #[.int .i64 y0, .int .i64 y1])).run Try.prog w = .ok (x0 == y0 && (x1 == y1)) w := by
 refine eqA_of Try.underlying52 (by kernel_rfl) ?_
 refine eqf_cons (by rfl) (by go_simp; rfl) (by go_simp; rfl) (by go_simp) ?_
 exact eqf_last (by rfl) (by go_simp; rfl) (by go_simp; rfl) (by go_simp)
end Go.Proofs.Ytbmklpcheopgoaa.H

namespace Go.Proofs.Ytbmklpcheopgoaa.H
open Go.RowKit Go.Proofs.YtbmklpcheopgoaaW.PrintWords Go.Proofs.YtbmklpcheopgoaaW.PrintLast Go.Proofs.YtbmklpcheopgoaaW.PrintMore
attribute [local go_sem] max2_int min2_int max_two min_two max_three min_three max_four min_four
set_option linter.unusedVariables false
set_option linter.unusedSimpArgs false
attribute [local go_sem high] eqA52
def fleuronref03_SamePts.l0 : Nat → List (S52) → List (S52) → Int → Option (Bool)
 | 0, _, _, _ => none
 | k + 1, x0, x1, x5 => if x5 < (x0.length : Int) then (if 0 ≤ x5 then (if x5 < (x1.length : Int) then (if (!(((rd_T52 x0 x5).f0) == ((rd_T52 x1 x5).f0)) || (!(((rd_T52 x0 x5).f1) == ((rd_T52 x1 x5).f1)))) = true then (some false) else (fleuronref03_SamePts.l0 k x0 x1 (wrap64 (x5 + 1)))) else (none)) else (none)) else (some true)
def fleuronref03_SamePts.f (k : Nat) (l0 : List (S52)) (l1 : List (S52)) : Option (Bool) := if (l0.length : Int) = (l1.length : Int) then (fleuronref03_SamePts.l0 k l0 l1 0) else (some false)
theorem fleuronref03_SamePts.mono_l : ∀ k, (∀ y0 y1 y2, LeO (fleuronref03_SamePts.l0 k y0 y1 y2) (fleuronref03_SamePts.l0 (k + 1) y0 y1 y2))
 | 0 => fun _ _ _ r h => by simp [fleuronref03_SamePts.l0] at h
 | k + 1 => by
  have ih0 := fleuronref03_SamePts.mono_l k
  ·
   intro y0 y1 y2
   unfold fleuronref03_SamePts.l0
   repeat' first
   | (with_reducible exact ih0 _ _ _)
   | (with_reducible exact LeO.refl _)
   | (with_reducible exact LeO.none _)
   | (with_reducible refine LeO.ite ?_ ?_)
   | (with_reducible refine LeO.bind ?_ (fun _ => ?_))
   | exact ih0 _ _ _
   | exact LeO.none _
   | refine LeO.ite ?_ ?_
   | refine LeO.bind ?_ (fun _ => ?_)
theorem fleuronref03_SamePts.mono : ∀ a0 a1 k, LeO (fleuronref03_SamePts.f k a0 a1) (fleuronref03_SamePts.f (k + 1) a0 a1) := by
 intro a0 a1 k
 have ih0 := fleuronref03_SamePts.mono_l k
 unfold fleuronref03_SamePts.f
 repeat' first
   | (with_reducible exact ih0 _ _ _)
   | (with_reducible exact LeO.refl _)
   | (with_reducible exact LeO.none _)
   | (with_reducible refine LeO.ite ?_ ?_)
   | (with_reducible refine LeO.bind ?_ (fun _ => ?_))
   | exact ih0 _ _ _
   | exact LeO.none _
   | refine LeO.ite ?_ ?_
   | refine LeO.bind ?_ (fun _ => ?_)
set_option maxHeartbeats 8000000 in
set_option maxRecDepth 100000 in
theorem fleuronref03_SamePts.calls (k : Nat) (A0 : Option Addr) (c0 : Nat) (l0 : List (S52)) (A1 : Option Addr) (c1 : Nat) (l1 : List (S52)) (r : Bool) (w : World) (hr0 : Kd.C k52 w A0 l0.length l0) (hc0 : l0.length ≤ c0) (hr1 : Kd.C k52 w A1 l1.length l1) (hc1 : l1.length ≤ c1) (h : fleuronref03_SamePts.f k l0 l1 = some r) :
  Calls Try.prog 35 #[.slice A0 l0.length c0, .slice A1 l1.length c1] w fun e w' => e = .returned (.bool r) ∧ Drawn0 w w' := by
 have hu52 := Try.underlying52
 have HR0 := aM hr0
 have HC0 := aM hc0
 clear hr0 hc0
 have HR1 := aM hr1
 have HC1 := aM hc1
 clear hr1 hc1
 have H : (if (l0.length : Int) = (l1.length : Int) then (fleuronref03_SamePts.l0 k l0 l1 0) else (some false)) = some r := h
 clear h
 by_cases c3 : (l0.length : Int) = (l1.length : Int)
 ·
  rw [if_pos c3] at H
  have c3b0 : ((l0.length : Int) == (l1.length : Int)) = true := beq_iff_eq.mpr c3
  have c3b1 : ((l0.length : Int) != (l1.length : Int)) = false := bne_eq_false_iff_eq.mpr c3
  have c3b2 : (l0.length == l1.length) = true := by first | simpa using c3 | (simp at c3 ⊢; omega)
  clear c3
  have H' := aM H
  clear H
  go_enter Try.func35, Try.ntmps35
  go_wp2
  repeat (go_quiet (fail); try go_wp2)
  go_loopg [5] k (fun kq v5 w' => ∃ (x5_1 : Int), v5 = .int .i64 x5_1 ∧ Aside0 (fleuronref03_SamePts.l0 kq l0 l1 x5_1 = some r) ∧ Aside0 (kq ≤ k) ∧ Drawn0 w w')
  case atStart => exact ⟨(0), (by first | rfl | (simp; done) | (simp [*]; done)), H', ⟨Nat.le_refl _⟩, by repeat (first | exact Drawn0.refl _ | apply Drawn0.step)⟩
  case round =>
   clear H'
   try clear c1
   try clear p2
   try clear c3
   try clear c3b0
   try clear c3b1
   try clear c3b2
   obtain ⟨x5_1, rfl, HA, HK1, ⟨m1, rfl⟩⟩ := hrel
   cases gk with
   | zero => exact absurd HA.out (by simp [fleuronref03_SamePts.l0])
   | succ k1 =>
    have H := HA.out
    clear HA
    simp only [fleuronref03_SamePts.l0] at H
    by_cases c4 : x5_1 < (l0.length : Int)
    ·
     rw [if_pos c4] at H
     have c4b0 : decide (x5_1 < (l0.length : Int)) = true := decide_eq_true c4
     clear c4
     by_cases c5 : 0 ≤ x5_1
     ·
      rw [if_pos c5] at H
      have c5b0 : decide (0 ≤ x5_1) = true := decide_eq_true c5
      clear c5
      by_cases c6 : x5_1 < (l1.length : Int)
      ·
       rw [if_pos c6] at H
       have c6b0 : decide (x5_1 < (l1.length : Int)) = true := decide_eq_true c6
       clear c6
       by_cases c7 : (!(((rd_T52 l0 x5_1).f0) == ((rd_T52 l1 x5_1).f0)) || (!(((rd_T52 l0 x5_1).f1) == ((rd_T52 l1 x5_1).f1)))) = true
       ·
        rw [if_pos c7] at H
        have c7b0 : (!(((rd_T52 l0 x5_1).f0) == ((rd_T52 l1 x5_1).f0)) || (!(((rd_T52 l0 x5_1).f1) == ((rd_T52 l1 x5_1).f1)))) = true := c7
        clear c7
        obtain rfl := Option.some.inj H
        have p168 : 0 ≤ (x5_1 : Int) := dT (by assumption)
        have q168 : x5_1 < (l0.length : Int) := dT (by assumption)
        obtain ⟨ad168, e168, hx168_0, hx168_1⟩ := at_T52 HR0.out x5_1 p168 q168
        cases e168
        replace p168 := eq_true p168
        replace q168 := eq_true q168
        have p169 : 0 ≤ (x5_1 : Int) := dT (by assumption)
        have q169 : x5_1 < (l1.length : Int) := dT (by assumption)
        obtain ⟨ad169, e169, hx169_0, hx169_1⟩ := at_T52 HR1.out x5_1 p169 q169
        cases e169
        replace p169 := eq_true p169
        replace q169 := eq_true q169
        go_wp2
        repeat (go_quiet (fail); try go_wp2)
        go_ret
        exact ⟨by first | rfl | (simp; done) | (simp [*]; done), by repeat (first | exact Drawn0.refl _ | apply Drawn0.step)⟩
       ·
        rw [if_neg c7] at H
        have c7b0 : (!(((rd_T52 l0 x5_1).f0) == ((rd_T52 l1 x5_1).f0)) || (!(((rd_T52 l0 x5_1).f1) == ((rd_T52 l1 x5_1).f1)))) = false := by simpa using c7
        clear c7
        have H' := aM H
        clear H
        have p168 : 0 ≤ (x5_1 : Int) := dT (by assumption)
        have q168 : x5_1 < (l0.length : Int) := dT (by assumption)
        obtain ⟨ad168, e168, hx168_0, hx168_1⟩ := at_T52 HR0.out x5_1 p168 q168
        cases e168
        replace p168 := eq_true p168
        replace q168 := eq_true q168
        have p169 : 0 ≤ (x5_1 : Int) := dT (by assumption)
        have q169 : x5_1 < (l1.length : Int) := dT (by assumption)
        obtain ⟨ad169, e169, hx169_0, hx169_1⟩ := at_T52 HR1.out x5_1 p169 q169
        cases e169
        replace p169 := eq_true p169
        replace q169 := eq_true q169
        go_wp2
        repeat (go_quiet (fail); try go_wp2)
        go_roundg k1
        case measure => have := HK1.out; omega
        case rel => exact ⟨(wrap64 (x5_1 + 1)), (by first | rfl | (simp; done) | (simp [*]; done)), H', ⟨by have := HK1.out; omega⟩, by repeat (first | exact Drawn0.refl _ | apply Drawn0.step)⟩
      ·
       rw [if_neg c6] at H
       exact absurd H (by simp)
     ·
      rw [if_neg c5] at H
      exact absurd H (by simp)
    ·
     rw [if_neg c4] at H
     have c4b0 : decide (x5_1 < (l0.length : Int)) = false := decide_eq_false c4
     clear c4
     obtain rfl := Option.some.inj H
     go_wp2
     repeat (go_quiet (fail); try go_wp2)
     go_ret
     exact ⟨by first | rfl | (simp; done) | (simp [*]; done), by repeat (first | exact Drawn0.refl _ | apply Drawn0.step)⟩
 ·
  rw [if_neg c3] at H
  have c3b0 : ((l0.length : Int) == (l1.length : Int)) = false := beq_eq_false_iff_ne.mpr c3
  have c3b1 : ((l0.length : Int) != (l1.length : Int)) = true := bne_iff_ne.mpr c3
  have c3b2 : (l0.length == l1.length) = false := by first | simpa using c3 | (simp at c3 ⊢; omega)
  obtain rfl := Option.some.inj H
  go_enter Try.func35, Try.ntmps35
  go_wp2
  repeat (go_quiet (fail); try go_wp2)
  go_ret
  exact ⟨by first | rfl | (simp; done) | (simp [*]; done), by repeat (first | exact Drawn0.refl _ | apply Drawn0.step)⟩
def fleuronlaw03_square.f  : Option ((List (S33)) × List Int) := some ((([(⟨0, 0, true⟩ : S33), (⟨4, 0, true⟩ : S33), (⟨4, 4, true⟩ : S33), (⟨0, 4, true⟩ : S33)] : List (S33))), (([3] : List Int)))
set_option maxHeartbeats 8000000 in
set_option maxRecDepth 100000 in
theorem fleuronlaw03_square.calls  (r1 : List (S33)) (r2 : List Int) (w : World) (h : fleuronlaw03_square.f  = some (r1, r2)) :
  Calls Try.prog 43 #[] w fun e w' => ∃ v0_ v1_ : Value, e = .returned (.agg #[v0_, v1_]) ∧ Kd.R k33 33 w' w.heap.size (fun _ => True) v0_ r1 ∧ Kd.R (Kd.int .i64) 3 w' w.heap.size (fun _ => True) v1_ r2 ∧ Below w.heap.size w w' := by
 have hu25 := Try.underlying25
 have hu33 := Try.underlying33
 have HB := aM (Below.refl w.heap.size w)
 have H : (some ((([(⟨0, 0, true⟩ : S33), (⟨4, 0, true⟩ : S33), (⟨4, 4, true⟩ : S33), (⟨0, 4, true⟩ : S33)] : List (S33))), (([3] : List Int)))) = some (r1, r2) := h
 clear h
 obtain ⟨y171, hy171⟩ : ∃ y_ : List (S33), y_ = (([(⟨0, 0, true⟩ : S33), (⟨4, 0, true⟩ : S33), (⟨4, 4, true⟩ : S33), (⟨0, 4, true⟩ : S33)] : List (S33))) := ⟨_, rfl⟩
 replace H : (some (y171, (([3] : List Int)))) = some (r1, r2) := by first | (rw [hy171]; with_reducible exact H) | (have H2_ := (Option.bind_some _ _).symm.trans H; rw [hy171]; with_reducible exact H2_) | (have H2_ := (Option.bind_some _ _).symm.trans H; with_reducible exact H2_) | with_reducible exact H | (rw [hy171]; exact H) | exact H
 have Ny171 := aM hy171
 clear hy171
 obtain ⟨y174, hy174⟩ : ∃ y_ : List Int, y_ = (([3] : List Int)) := ⟨_, rfl⟩
 replace H : (some (y171, y174)) = some (r1, r2) := by first | (rw [hy174]; with_reducible exact H) | (have H2_ := (Option.bind_some _ _).symm.trans H; rw [hy174]; with_reducible exact H2_) | (have H2_ := (Option.bind_some _ _).symm.trans H; with_reducible exact H2_) | with_reducible exact H | (rw [hy174]; exact H) | exact H
 have Ny174 := aM hy174
 clear hy174
 simp only [Option.some.injEq, Prod.mk.injEq] at H
 obtain ⟨rfl, rfl⟩ := H
 go_enter Try.func43, Try.ntmps43
 go_wp2_with (first | ((with_reducible refine gate_dst (N := 0) rfl ?_); refine box_event ?hg (N := 0) ?hd (cs := #[.slice none 0 0, .slice none 0 0]) (t := 25) ?hr ?_; (case hd => rfl); (case hg => rfl); (case hr => first | (go_simp; done) | (go_simp; rfl)); intro gb170 hg w1 hbox hb; have n0_ := aM (below_step (by repeat (first | (with_reducible first | exact HB.out | apply bA | apply bN | apply bD) | exact HB.out)) hb); have n1_ := aM (hbox); have n2_ := aM ((by rw [hg]; exact (below_size (by repeat (first | (with_reducible first | exact HB.out | apply bA | apply bN | apply bD) | exact HB.out))) : w.heap.size ≤ gb170)); have n3_ := aM ((by rw [hg]; exact (below_size (by repeat (first | (with_reducible first | exact HB.out | apply bA | apply bN | apply bD) | exact HB.out))) : w.heap.size ≤ gb170)); clear HB; have HB := n0_; have BK170 := n1_; have GW170 := n2_; have GE170 := n3_; clear n0_ n1_ n2_ n3_; clear hb hbox hg) | ((with_reducible refine gate_dst (N := 5) rfl ?_); refine Kd.R_lit k33 _ 33 ?hg (N := 5) ?hd (xs := ([(⟨0, 0, true⟩ : S33), (⟨4, 0, true⟩ : S33), (⟨4, 4, true⟩ : S33), (⟨0, 4, true⟩ : S33)] : List (S33))) (inner := [.int .i64 0, .int .i64 0, .bool true, .int .i64 4, .int .i64 0, .bool true, .int .i64 4, .int .i64 4, .bool true, .int .i64 0, .int .i64 4, .bool true]) (ok := fun _ => True) (okp := fun _ => True) ?hr ?hp (fun _ hk => hk) trivial (Below.refl _ _) (Nat.le_refl _) (by simp) ?_; (case hd => rfl); (case hg => rfl); (case hr => first | (go_simp; done) | (go_simp; rfl)); (case hp => exact (Reps.c3 (show Kd.M k33 _ _ _ (⟨0, 0, true⟩ : S33) [.int .i64 0, .int .i64 0, .bool true] from (k33_mkM _ _ _ (⟨0, 0, true⟩ : S33) )) (Reps.c3 (show Kd.M k33 _ _ _ (⟨4, 0, true⟩ : S33) [.int .i64 4, .int .i64 0, .bool true] from (k33_mkM _ _ _ (⟨4, 0, true⟩ : S33) )) (Reps.c3 (show Kd.M k33 _ _ _ (⟨4, 4, true⟩ : S33) [.int .i64 4, .int .i64 4, .bool true] from (k33_mkM _ _ _ (⟨4, 4, true⟩ : S33) )) (Reps.c3 (show Kd.M k33 _ _ _ (⟨0, 4, true⟩ : S33) [.int .i64 0, .int .i64 4, .bool true] from (k33_mkM _ _ _ (⟨0, 4, true⟩ : S33) )) (Reps.none _ _)))))); intro v172 w2 ho3 hb hg_ hnew_; clear hg_ hnew_; (first | rw [← Ny171.out] at ho3 | (simp only [Int.reduceToNat] at ho3; rw [← Ny171.out] at ho3)); have n0_ := aM (Kd.R_lower ho3 (below_size (by repeat (first | (with_reducible first | exact HB.out | apply bA | apply bN | apply bD | refine bS ?_ GE170.out) | exact HB.out)))); have n1_ := aM (blk_below (g := gb170) (o := .cells #[.slice none 0 0, .slice none 0 0] 25 (0, 0)) (by (with_reducible repeat (first | refine kN ?_ _ | refine kD ?_ | refine kA ?_ _)); exact BK170.out) hb); have n2_ := aM (below_step (by repeat (first | (with_reducible first | exact HB.out | apply bA | apply bN | apply bD | refine bS ?_ GE170.out) | exact HB.out)) hb); clear BK170; clear HB; have HO173 := n0_; have BK170 := n1_; have HB := n2_; clear n0_ n1_ n2_; clear hb ho3) | ((with_reducible refine gate_dst (N := 6) rfl ?_); refine Kd.R_lit (Kd.int .i64) _ 3 ?hg (N := 6) ?hd (xs := ([3] : List Int)) (inner := [.int .i64 3]) (ok := fun _ => True) (okp := fun _ => True) ?hr ?hp (fun _ hk => hk) trivial (Below.refl _ _) (Nat.le_refl _) (by simp) ?_; (case hd => rfl); (case hg => rfl); (case hr => first | (go_simp; done) | (go_simp; rfl)); (case hp => exact (Reps.one (show Kd.M (Kd.int .i64) _ _ _ 3 [.int .i64 3] from rfl) (Reps.none _ _))); intro v175 w4 ho5 hb hg_ hnew_; clear hg_ hnew_; (first | rw [← Ny174.out] at ho5 | (simp only [Int.reduceToNat] at ho5; rw [← Ny174.out] at ho5)); have n0_ := aM (Kd.R_below (by (with_reducible repeat (first | apply Kd.R_alloc | apply Kd.R_drewN | apply Kd.R_drew)); exact HO173.out) hb); have n1_ := aM (Kd.R_lower ho5 (below_size (by repeat (first | (with_reducible first | exact HB.out | apply bA | apply bN | apply bD | refine bS ?_ GE170.out) | exact HB.out)))); have n2_ := aM (blk_below (g := gb170) (o := .cells #[.slice none 0 0, .slice none 0 0] 25 (0, 0)) (by (with_reducible repeat (first | refine kN ?_ _ | refine kD ?_ | refine kA ?_ _)); exact BK170.out) hb); have n3_ := aM (below_step (by repeat (first | (with_reducible first | exact HB.out | apply bA | apply bN | apply bD | refine bS ?_ GE170.out) | exact HB.out)) hb); clear HO173; clear BK170; clear HB; have HO173 := n0_; have HO176 := n1_; have BK170 := n2_; have HB := n3_; clear n0_ n1_ n2_ n3_; clear hb ho5; obtain ⟨Ao6, co6, eo6⟩ := Kd.R_slice HO176.out; subst eo6; obtain ⟨Ao7, co7, eo7⟩ := Kd.R_slice HO173.out; subst eo7; have hcz8_0 : w4.cell? ⟨gb170, 0, none⟩ = some (.slice none 0 0) := (blk_cell BK170.out 0).trans rfl; have hcz8_1 : w4.cell? ⟨gb170, 1, none⟩ = some (.slice none 0 0) := (blk_cell BK170.out 1).trans rfl; have hfz8_0 := blk_frozen BK170.out 0; have hfz8_1 := blk_frozen BK170.out 1))
 refine bodyPost_ret (results_cell_row rfl _ _ gb170 25 #[.slice Ao7 y171.length co7, .slice Ao6 y174.length co6] (0, 0) _ rfl (by (with_reducible repeat (first | refine kN ?_ _ | refine kD ?_ | refine kA ?_ _)); refine blk_put (cs := #[.slice Ao7 y171.length co7, .slice none 0 0]) ?_ 1 _ rfl; (with_reducible repeat (first | refine kN ?_ _ | refine kD ?_ | refine kA ?_ _)); refine blk_put (cs := #[.slice none 0 0, .slice none 0 0]) ?_ 0 _ rfl; (with_reducible repeat (first | refine kN ?_ _ | refine kD ?_ | refine kA ?_ _)); exact BK170.out) Try.underlying25 rfl (by kernel_rfl)) rfl ?_
 exact ⟨_, _, by first | rfl | (simp [errW_none, errW_some] <;> rfl) | (simp [*, errW_none, errW_some] <;> rfl), by (with_reducible repeat (first | apply Kd.R_alloc | apply Kd.R_drewN | apply Kd.R_drew)); exact Kd.R_mono (Kd.R_far (p := ⟨gb170, 1, none⟩) (Kd.R_far (p := ⟨gb170, 0, none⟩) (Kd.R_types HO173.out BK170.out (by decide)) (fun _ hk => hk.2) (.slice Ao7 y171.length co7)) (fun _ hk => hk.2) (.slice Ao6 y174.length co6)) (fun _ hk => trivial), by (with_reducible repeat (first | apply Kd.R_alloc | apply Kd.R_drewN | apply Kd.R_drew)); exact Kd.R_mono (Kd.R_far (p := ⟨gb170, 1, none⟩) (Kd.R_far (p := ⟨gb170, 0, none⟩) (Kd.R_types HO176.out BK170.out (by decide)) (fun _ hk => hk.2) (.slice Ao7 y171.length co7)) (fun _ hk => hk.2) (.slice Ao6 y174.length co6)) (fun _ hk => trivial), by repeat (first | (with_reducible first | exact HB.out | apply bA | apply bN | apply bD | refine bS ?_ GE170.out) | exact HB.out)⟩
end Go.Proofs.Ytbmklpcheopgoaa.H

namespace Go.Proofs.Ytbmklpcheopgoaa.H
open Go.RowKit Go.Proofs.YtbmklpcheopgoaaW.PrintWords Go.Proofs.YtbmklpcheopgoaaW.PrintLast Go.Proofs.YtbmklpcheopgoaaW.PrintMore
attribute [local go_sem] max2_int min2_int max_two min_two max_three min_three max_four min_four
set_option linter.unusedVariables false
set_option linter.unusedSimpArgs false
open Go.Proofs.YtbmklpcheopgoaaOps Go.Proofs.YtbmklpcheopgoaaIt Go.Proofs.YtbmklpcheopgoaaBlks Go.Proofs.YtbmklpcheopgoaaFlat Go.Proofs.YtbmklpcheopgoaaCallOps Go.Shelf
attribute [local go_sem] Oper.semAt_some wide_depth wide_fn World.cell?_alloc_some
def fleuronlaw03_drawn.f : Option Bool := some true
def drawnPts : List S33 := [⟨0, 0, true⟩, ⟨4, 0, true⟩, ⟨4, 4, true⟩, ⟨0, 4, true⟩]
def drawnRev : List S33 := [⟨0, 0, true⟩, ⟨0, 4, true⟩, ⟨4, 4, true⟩, ⟨4, 0, true⟩]
def drawnMov : List S33 := [⟨1, 2, true⟩, ⟨5, 2, true⟩, ⟨5, 6, true⟩, ⟨1, 6, true⟩]
def drawnTri : List S52 := [⟨0, 0⟩, ⟨64, 0⟩, ⟨64, 64⟩]
def drawnOn : List Bool := [true, false, true]
def drawnWant : List S52 := [⟨0, 0⟩, ⟨15, 1⟩, ⟨28, 4⟩, ⟨39, 9⟩, ⟨48, 16⟩, ⟨55, 25⟩, ⟨60, 36⟩, ⟨63, 49⟩, ⟨64, 64⟩]
theorem drawn1 : outline_Box.f drawnPts [3] = some (0, 0, false, 4, 4, false, true) := by kernel_rfl
theorem drawn2 : outline_Box.f [] [] = some (0, 0, false, 0, 0, false, false) := by kernel_rfl
theorem drawn3 : outline_Reversed.f drawnPts [3] = some (drawnRev, [3]) := by kernel_rfl
theorem drawn4 : outline_Moved.f 20 drawnPts [3] 1 2 = some (drawnMov, [3]) := by kernel_rfl
theorem drawn5 : outline_Lines.f drawnTri drawnOn [2] = some [drawnWant] := by kernel_rfl
theorem drawn6 : outline_Right.f 20 drawnPts [3] = some true := by kernel_rfl
theorem drawn7 : outline_Right.f 20 [] [0] = some false := by kernel_rfl
theorem drawn8 : outline_Area.f drawnPts [3] = some 32 := by kernel_rfl
theorem drawn9 : outline_Area.f drawnRev [3] = some (-32) := by kernel_rfl
theorem drawn10 : fleuronref03_SamePts.f 20 drawnWant drawnWant = some true := by kernel_rfl
theorem drawn_sl {α : Type} {d : Kd α} {e base : Nat} {ok : Nat → Prop} {w : World} {v : Value} {xs : List α} (h : d.R e w base ok v xs) {n : Nat} (hn : xs.length = n) : ∃ A c, v = .slice A n c := by
 obtain ⟨A, c, e⟩ := Kd.R_slice h
 exact ⟨A, c, by rw [e, hn]⟩
theorem drawn_reps {α : Type} {R : α → List Value → Prop} {size : Nat} (seg : α → List Value) (hs : ∀ x, (seg x).length = size) (hR : ∀ x, R x (seg x)) : ∀ xs : List α, Reps R size xs (xs.flatMap seg)
 | [] => Reps.none _ _
 | x :: xs => by
  have h1 : Reps R size [x] (seg x) := by simpa using Reps.snoc (Reps.none R size) (hR x) (hs x)
  simpa using Kd.reps_append h1 (drawn_reps seg hs hR xs)
theorem drawn_lit {α : Type} (d : Kd α) (seg : α → List Value) {w : World} (hs : ∀ x, (seg x).length = d.sz) (hK : ∀ x, d.K w x (seg x)) (xs : List α) (hm : xs.length ≤ 9223372036854775807) {g : Nat} {t : TypeId} (hb : w.heap[g]? = some (.cells (xs.flatMap seg).toArray t (0, 0))) : d.C w (some ⟨g, 0, none⟩) xs.length xs := by
 refine ⟨rfl, hm, fun _ => ⟨_, rfl, fun j p hj => ⟨seg p, hs p, hK p, fun i u hu => ?_⟩⟩⟩
 have h := (drawn_reps (R := fun x c => c = seg x) seg hs (fun _ => rfl) xs).2 j p hj
 have hi : i < d.sz := by have := (List.getElem?_eq_some_iff.1 hu).1; rw [hs] at this; exact this
 rw [← h, List.getElem?_take_of_lt hi, List.getElem?_drop] at hu
 have e : (⟨g, 0, none⟩ : Addr).add (j * d.sz + i) = ⟨g, j * d.sz + i, none⟩ := by simp [Addr.add]; omega
 rw [e, blk_cell hb]
 simpa using hu
set_option maxHeartbeats 8000000 in
set_option maxRecDepth 100000 in
theorem drawn_calls (w : World) : Calls Try.prog 21 #[] w fun e w' => e = .returned (.bool true) ∧ Below w.heap.size w w' := by
 have hu := Try.underlying25
 have hu2 := Try.underlying33
 have hu3 := Try.underlying52
 refine (callsIn_wide (n := 0)).1 (callsIn_of_wp Try.func21 rfl trivial ?_ rfl)
 simp only [Try.ntmps21, List.size_toArray, List.length_cons, List.length_nil, Nat.reduceAdd, Nat.reduceSub, Array.replicate_succ, Array.replicate_zero, List.push_toArray, List.append_toArray, List.nil_append, List.cons_append]
 gi_wp2
 refine CallsIn.mono (callsIn_wide.2 (fleuronlaw03_square.calls drawnPts [3] w rfl)) ?_
 rintro e V0 ⟨v0, v1, rfl, hR0, hR1, hb0⟩
 obtain ⟨Ap, cp, rfl⟩ := drawn_sl hR0 (n := 4) rfl
 obtain ⟨Ae, ce, rfl⟩ := drawn_sl hR1 (n := 1) rfl
 replace hR0 := R_own1 flat_pt hR0
 replace hR1 := R_own1 (flat_int .i64) hR1
 gi_wp2
 -- Box of o
 generalize hV : World.alloc V0 _ = V1
 have hB : Blks [(V0.heap.size, .cells #[.slice Ap 4 cp, .slice Ae 1 ce] 25 (0, 0))] V1 := by rw [← hV]; exact (Blks.nil V0).alloc _
 have hs1 : V1.heap.size = V0.heap.size + 1 := by rw [← hV]; simp
 have hb1 : Below V0.heap.size V0 V1 := by rw [← hV]; exact (Below.refl _ V0).alloc (Nat.le_refl _) _
 clear hV
 have HP := (Kd.R_reads' (R_chg hR0 (Chg.of_fresh (S := fun _ => False) hb1) (fun _ _ => id))).2
 have HE := (Kd.R_reads' (R_chg hR1 (Chg.of_fresh (S := fun _ => False) hb1) (fun _ _ => id))).2
 replace hb0 := hb0.trans (hb1.mono (by have := hb0.size; omega))
 clear hR0 hR1
 refine CallsIn.mono (callsIn_wide.2 (outline_Box.calls Ap cp drawnPts Ae ce [3] 0 0 false 4 4 false true V1 HP.2 HP.1 HE.2 HE.1 drawn1)) ?_
 rintro e V2 ⟨rfl, hb2⟩
 gi_wp2
 -- Box of nothing
 generalize hV : World.alloc (World.alloc V2 _) _ = V3
 have hB3 : Blks [(V2.heap.size + 1, .cells #[.int .i64 4, .int .i64 4, .bool false] 33 (0, 0)), (V2.heap.size, .cells #[.int .i64 0, .int .i64 0, .bool false] 33 (0, 0)), (V0.heap.size, .cells #[.slice Ap 4 cp, .slice Ae 1 ce] 25 (0, 0))] V3 := by rw [← hV]; exact ((hB.below hb2).alloc _).alloc_at _ (by simp)
 have hs3 : V3.heap.size = V2.heap.size + 1 + 1 := by rw [← hV]; simp
 have hb3 : Below V1.heap.size V1 V3 := by rw [← hV]; exact (hb2.alloc hb2.size _).alloc (by simp; have := hb2.size; omega) _
 clear hV hB
 refine CallsIn.mono (callsIn_wide.2 (outline_Box.calls none 0 [] none 0 [] 0 0 false 0 0 false false V3 (Kd.C_nil _ _) (Nat.le_refl _) (Kd.C_nil _ _) (Nat.le_refl _) drawn2)) ?_
 rintro e V4 ⟨rfl, hb4⟩
 have hB4 := hB3.below hb4
 have c1 := hB4.cell 2 rfl 0
 have c2 := hB4.cell 2 rfl 1
 have f1 := hB4.free 2 rfl 0
 have f2 := hB4.free 2 rfl 1
 simp only [List.getElem?_toArray, List.getElem?_cons_zero, List.getElem?_cons_succ] at c1 c2
 gi_wp2
 -- Reversed
 generalize hV : World.alloc (World.alloc V4 _) _ = V5
 have hB5 : Blks [(V4.heap.size + 1, .cells #[.int .i64 0, .int .i64 0, .bool false] 33 (0, 0)), (V4.heap.size, .cells #[.int .i64 0, .int .i64 0, .bool false] 33 (0, 0)), (V2.heap.size + 1, .cells #[.int .i64 4, .int .i64 4, .bool false] 33 (0, 0)), (V2.heap.size, .cells #[.int .i64 0, .int .i64 0, .bool false] 33 (0, 0)), (V0.heap.size, .cells #[.slice Ap 4 cp, .slice Ae 1 ce] 25 (0, 0))] V5 := by rw [← hV]; exact (hB4.alloc _).alloc_at _ (by simp)
 have hb5 : Below V1.heap.size V1 V5 := by rw [← hV]; exact hb3.trans (((hb4.alloc hb4.size _).alloc (by simp; have := hb4.size; omega) _).mono hb3.size)
 replace hB5 := hB5.sub (H' := [(V2.heap.size + 1, .cells #[.int .i64 4, .int .i64 4, .bool false] 33 (0, 0)), (V2.heap.size, .cells #[.int .i64 0, .int .i64 0, .bool false] 33 (0, 0)), (V0.heap.size, .cells #[.slice Ap 4 cp, .slice Ae 1 ce] 25 (0, 0))]) (((List.Sublist.refl _).cons _).cons _)
 clear hV hB3 hB4 c1 c2 f1 f2 hb4
 refine CallsIn.mono (callsIn_wide.2 (outline_Reversed.calls Ap cp drawnPts Ae ce [3] drawnRev [3] V5 (Kd.C_below HP.2 hb5) HP.1 (Kd.C_below HE.2 hb5) HE.1 drawn3)) ?_
 rintro e V6 ⟨v0, v1, rfl, hR0, hR1, hb6⟩
 obtain ⟨Ar, cr, rfl⟩ := drawn_sl hR0 (n := 4) rfl
 obtain ⟨As, cs, rfl⟩ := drawn_sl hR1 (n := 1) rfl
 replace hR0 := (Kd.R_reads' hR0).2
 replace hR1 := (Kd.R_reads' hR1).2
 have hB6 := hB5.below hb6
 have c1 := hB6.cell 2 rfl 0
 have c2 := hB6.cell 2 rfl 1
 have f1 := hB6.free 2 rfl 0
 have f2 := hB6.free 2 rfl 1
 simp only [List.getElem?_toArray, List.getElem?_cons_zero, List.getElem?_cons_succ] at c1 c2
 gi_wp2
 -- Moved
 generalize hV : World.alloc V6 _ = V7
 have hB7 : Blks [(V6.heap.size, .cells #[.slice Ar 4 cr, .slice As 1 cs] 25 (0, 0)), (V2.heap.size + 1, .cells #[.int .i64 4, .int .i64 4, .bool false] 33 (0, 0)), (V2.heap.size, .cells #[.int .i64 0, .int .i64 0, .bool false] 33 (0, 0)), (V0.heap.size, .cells #[.slice Ap 4 cp, .slice Ae 1 ce] 25 (0, 0))] V7 := by rw [← hV]; exact hB6.alloc _
 have hb7 : Below V6.heap.size V6 V7 := by rw [← hV]; exact (Below.refl _ V6).alloc (Nat.le_refl _) _
 have hb57 : Below V1.heap.size V1 V7 := hb5.trans ((hb6.trans (hb7.mono hb6.size)).mono hb5.size)
 have HR := Kd.C_below hR0.2 hb7
 have HS := Kd.C_below hR1.2 hb7
 clear hV hB5 hB6 c1 c2 f1 f2 hb5 hb3 hb6
 refine CallsIn.mono (callsIn_wide.2 (outline_Moved.calls 20 Ap cp drawnPts Ae ce [3] 1 2 drawnMov [3] V7 (Kd.C_below HP.2 hb57) HP.1 (Kd.C_below HE.2 hb57) HE.1 drawn4)) ?_
 rintro e V8 ⟨v0, v1, rfl, hM0, hM1, hb8⟩
 obtain ⟨Am, cm, rfl⟩ := drawn_sl hM0 (n := 4) rfl
 obtain ⟨An, cn, rfl⟩ := drawn_sl hM1 (n := 1) rfl
 replace hM0 := (Kd.R_reads' hM0).2
 replace hM1 := (Kd.R_reads' hM1).2
 have hB8 := hB7.below hb8
 gi_wp2
 -- Lines
 generalize hV : World.alloc (World.alloc (World.alloc (World.alloc V8 _) _) _) _ = V9
 have hb9 : Below V8.heap.size V8 V9 := by rw [← hV]; exact ((((Below.refl _ V8).alloc (Nat.le_refl _) _).alloc (by simp) _).alloc (by simp; omega) _).alloc (by simp; omega) _
 have hB9 : Blks [(V8.heap.size + 1 + 1 + 1, .cells #[.int .i64 2] 3 (0, 0)), (V8.heap.size + 1 + 1, .cells #[.bool true, .bool false, .bool true] 4 (0, 0)), (V8.heap.size + 1, .cells #[.int .i64 0, .int .i64 0, .int .i64 64, .int .i64 0, .int .i64 64, .int .i64 64] 52 (0, 0)), (V8.heap.size, .cells #[.slice Am 4 cm, .slice An 1 cn] 25 (0, 0)), (V6.heap.size, .cells #[.slice Ar 4 cr, .slice As 1 cs] 25 (0, 0)), (V2.heap.size + 1, .cells #[.int .i64 4, .int .i64 4, .bool false] 33 (0, 0)), (V2.heap.size, .cells #[.int .i64 0, .int .i64 0, .bool false] 33 (0, 0)), (V0.heap.size, .cells #[.slice Ap 4 cp, .slice Ae 1 ce] 25 (0, 0))] V9 := by rw [← hV]; exact (((hB8.alloc _).alloc_at _ (by simp)).alloc_at _ (by simp)).alloc_at _ (by simp)
 have HT : Kd.C k52 V9 (some ⟨V8.heap.size + 1, 0, none⟩) drawnTri.length drawnTri := drawn_lit _ (fun x => [.int .i64 x.f0, .int .i64 x.f1]) (fun _ => rfl) (fun x => k52_mk _ x) _ (by decide) (hB9.blk 2 rfl)
 have HO : Kd.C Kd.bool V9 (some ⟨V8.heap.size + 1 + 1, 0, none⟩) drawnOn.length drawnOn := drawn_lit _ (fun x => [.bool x]) (fun _ => rfl) (fun x => rfl) _ (by decide) (hB9.blk 1 rfl)
 have HN : Kd.C (Kd.int .i64) V9 (some ⟨V8.heap.size + 1 + 1 + 1, 0, none⟩) [(2 : Int)].length [2] := drawn_lit _ (fun x => [.int .i64 x]) (fun _ => rfl) (fun x => rfl) _ (by decide) (hB9.blk 0 rfl)
 replace hB9 := hB9.tail.tail.tail
 clear hV hB8 hB7
 refine CallsIn.mono (callsIn_wide.2 (outline_Lines.calls _ 3 drawnTri _ 3 drawnOn _ 1 [2] [drawnWant] V9 HT (by decide) HO (by decide) HN (by decide) drawn5)) ?_
 rintro e V10 ⟨v0, rfl, hL, hb10⟩
 obtain ⟨Al, cl, rfl⟩ := Kd.S_slice hL
 simp only [List.length_cons, List.length_nil, Nat.zero_add] at hL ⊢
 obtain ⟨-, hcl, hLC⟩ := Kd.S_reads' hL
 clear hL
 obtain ⟨ad, rfl, hLD⟩ := hLC.2.2 (by decide)
 obtain ⟨c, -, ⟨Aw, cw, rfl, hcw, hWC⟩, hx⟩ := hLD 0 _ rfl
 have hx := hx 0 _ rfl
 have hB10 := hB9.below hb10
 have m0 := hB10.cell 0 rfl 0
 have m1 := hB10.cell 0 rfl 1
 have r0 := hB10.cell 1 rfl 0
 have r1 := hB10.cell 1 rfl 1
 have o0 := hB10.cell 4 rfl 0
 have o1 := hB10.cell 4 rfl 1
 have h0 := hB10.cell 2 rfl 0
 have h1 := hB10.cell 2 rfl 1
 have h2 := hB10.cell 2 rfl 2
 have l0 := hB10.cell 3 rfl 0
 have l1 := hB10.cell 3 rfl 1
 have l2 := hB10.cell 3 rfl 2
 simp only [List.getElem?_toArray, List.getElem?_cons_zero, List.getElem?_cons_succ] at m0 m1 r0 r1 o0 o1 h0 h1 h2 l0 l1 l2
 gi_wp2
 -- Right of o
 generalize hV : World.alloc V10 _ = V11
 have hb11 : Below V10.heap.size V10 V11 := by rw [← hV]; exact (Below.refl _ V10).alloc (Nat.le_refl _) _
 have hW11 := (hB10.alloc (.cells #[.int .i64 0, .int .i64 0, .int .i64 15, .int .i64 1, .int .i64 28, .int .i64 4, .int .i64 39, .int .i64 9, .int .i64 48, .int .i64 16, .int .i64 55, .int .i64 25, .int .i64 60, .int .i64 36, .int .i64 63, .int .i64 49, .int .i64 64, .int .i64 64] 52 (0, 0)))
 rw [hV] at hW11
 have HQ : Kd.C k52 V11 (some ⟨V10.heap.size, 0, none⟩) drawnWant.length drawnWant := drawn_lit _ (fun x => [.int .i64 x.f0, .int .i64 x.f1]) (fun _ => rfl) (fun x => k52_mk _ x) _ (by decide) (hW11.blk 0 rfl)
 have hB11 := hW11.tail
 clear hV hW11
 clear m0 m1 r0 r1 o0 o1 h0 h1 h2 l0 l1 l2
 have b1_11 : Below V1.heap.size V1 V11 := hb57.trans ((hb8.trans ((hb9.trans ((hb10.trans (hb11.mono hb10.size)).mono hb9.size)).mono hb8.size)).mono hb57.size)
 refine CallsIn.mono (callsIn_wide.2 (outline_Right.calls 20 Ap cp drawnPts Ae ce [3] true V11 (Kd.C_below HP.2 b1_11) HP.1 (Kd.C_below HE.2 b1_11) HE.1 drawn6)) ?_
 rintro e V12 ⟨rfl, hb12⟩
 have hB12 := hB11.below hb12
 have m0 := hB12.cell 0 rfl 0
 have m1 := hB12.cell 0 rfl 1
 have r0 := hB12.cell 1 rfl 0
 have r1 := hB12.cell 1 rfl 1
 have o0 := hB12.cell 4 rfl 0
 have o1 := hB12.cell 4 rfl 1
 have h0 := hB12.cell 2 rfl 0
 have h1 := hB12.cell 2 rfl 1
 have h2 := hB12.cell 2 rfl 2
 have l0 := hB12.cell 3 rfl 0
 have l1 := hB12.cell 3 rfl 1
 have l2 := hB12.cell 3 rfl 2
 simp only [List.getElem?_toArray, List.getElem?_cons_zero, List.getElem?_cons_succ] at m0 m1 r0 r1 o0 o1 h0 h1 h2 l0 l1 l2
 gi_wp2
 -- Right of what may not be
 generalize hV : World.alloc V12 _ = V13
 have hb13 : Below V12.heap.size V12 V13 := by rw [← hV]; exact (Below.refl _ V12).alloc (Nat.le_refl _) _
 have hZ := hB12.alloc (.cells #[.int .i64 0] 3 (0, 0))
 rw [hV] at hZ
 have HZ : Kd.C (Kd.int .i64) V13 (some ⟨V12.heap.size, 0, none⟩) [(0 : Int)].length [0] := drawn_lit _ (fun x => [.int .i64 x]) (fun _ => rfl) (fun x => rfl) _ (by decide) (hZ.blk 0 rfl)
 have hB13 := hZ.tail
 clear hV hZ
 clear m0 m1 r0 r1 o0 o1 h0 h1 h2 l0 l1 l2
 refine CallsIn.mono (callsIn_wide.2 (outline_Right.calls 20 none 0 [] _ 1 [0] false V13 (Kd.C_nil _ _) (Nat.le_refl _) HZ (by decide) drawn7)) ?_
 rintro e V14 ⟨rfl, hb14⟩
 have hB14 := hB13.below hb14
 have m0 := hB14.cell 0 rfl 0
 have m1 := hB14.cell 0 rfl 1
 have r0 := hB14.cell 1 rfl 0
 have r1 := hB14.cell 1 rfl 1
 have o0 := hB14.cell 4 rfl 0
 have o1 := hB14.cell 4 rfl 1
 have h0 := hB14.cell 2 rfl 0
 have h1 := hB14.cell 2 rfl 1
 have h2 := hB14.cell 2 rfl 2
 have l0 := hB14.cell 3 rfl 0
 have l1 := hB14.cell 3 rfl 1
 have l2 := hB14.cell 3 rfl 2
 simp only [List.getElem?_toArray, List.getElem?_cons_zero, List.getElem?_cons_succ] at m0 m1 r0 r1 o0 o1 h0 h1 h2 l0 l1 l2
 gi_wp2
 -- Area of o
 clear m0 m1 r0 r1 o0 o1 h0 h1 h2 l0 l1 l2
 have hb1114 : Below V11.heap.size V11 V14 := hb12.trans ((hb13.trans (hb14.mono hb13.size)).mono hb12.size)
 have b1_14 : Below V1.heap.size V1 V14 := b1_11.trans (hb1114.mono b1_11.size)
 refine CallsIn.mono (callsIn_wide.2 (outline_Area.calls Ap cp drawnPts Ae ce [3] 32 V14 (Kd.C_below HP.2 b1_14) HP.1 (Kd.C_below HE.2 b1_14) HE.1 drawn8)) ?_
 rintro e V15 ⟨rfl, hb15⟩
 have hB15 := hB14.below hb15
 have m0 := hB15.cell 0 rfl 0
 have m1 := hB15.cell 0 rfl 1
 have r0 := hB15.cell 1 rfl 0
 have r1 := hB15.cell 1 rfl 1
 have o0 := hB15.cell 4 rfl 0
 have o1 := hB15.cell 4 rfl 1
 have h0 := hB15.cell 2 rfl 0
 have h1 := hB15.cell 2 rfl 1
 have h2 := hB15.cell 2 rfl 2
 have l0 := hB15.cell 3 rfl 0
 have l1 := hB15.cell 3 rfl 1
 have l2 := hB15.cell 3 rfl 2
 simp only [List.getElem?_toArray, List.getElem?_cons_zero, List.getElem?_cons_succ] at m0 m1 r0 r1 o0 o1 h0 h1 h2 l0 l1 l2
 gi_wp2
 -- Area of r
 clear m0 m1 r0 r1 o0 o1 h0 h1 h2 l0 l1 l2
 have hb1115 : Below V11.heap.size V11 V15 := hb1114.trans (hb15.mono hb1114.size)
 have hb811 : Below V8.heap.size V8 V11 := hb9.trans ((hb10.trans (hb11.mono hb10.size)).mono hb9.size)
 have hb815 : Below V8.heap.size V8 V15 := hb811.trans (hb1115.mono hb811.size)
 have hb715 : Below V7.heap.size V7 V15 := hb8.trans (hb815.mono hb8.size)
 refine CallsIn.mono (callsIn_wide.2 (outline_Area.calls Ar cr drawnRev As cs [3] (-32) V15 (Kd.C_below HR hb715) hR0.1 (Kd.C_below HS hb715) hR1.1 drawn9)) ?_
 rintro e V16 ⟨rfl, hb16⟩
 have hB16 := hB15.below hb16
 have m0 := hB16.cell 0 rfl 0
 have m1 := hB16.cell 0 rfl 1
 have r0 := hB16.cell 1 rfl 0
 have r1 := hB16.cell 1 rfl 1
 have o0 := hB16.cell 4 rfl 0
 have o1 := hB16.cell 4 rfl 1
 have h0 := hB16.cell 2 rfl 0
 have h1 := hB16.cell 2 rfl 1
 have h2 := hB16.cell 2 rfl 2
 have l0 := hB16.cell 3 rfl 0
 have l1 := hB16.cell 3 rfl 1
 have l2 := hB16.cell 3 rfl 2
 simp only [List.getElem?_toArray, List.getElem?_cons_zero, List.getElem?_cons_succ] at m0 m1 r0 r1 o0 o1 h0 h1 h2 l0 l1 l2
 have HR16 := Kd.C_below (Kd.C_below HR hb715) hb16
 have HM16 := Kd.C_below (Kd.C_below hM0.2 hb815) hb16
 obtain ⟨ar, rfl, HRc⟩ := HR16.2.2 (by decide)
 obtain ⟨am, rfl, HMc⟩ := HM16.2.2 (by decide)
 obtain ⟨cr1, -, kr1, xr1⟩ := HRc 1 _ rfl
 obtain ⟨cm0, -, km0, xm0⟩ := HMc 0 _ rfl
 obtain rfl := k33_open kr1
 obtain rfl := k33_open km0
 have yr : V16.cell? ⟨ar.block, ar.off + 3 + 1, none⟩ = some (.int .i64 4) := xr1 1 _ rfl
 have ym : V16.cell? ⟨am.block, am.off + 1, none⟩ = some (.int .i64 2) := xm0 1 _ rfl
 have hb1016 : Below V10.heap.size V10 V16 := hb11.trans ((hb1115.trans (hb16.mono hb1115.size)).mono hb11.size)
 have hl16 := (Kd.C_below hLC hb1016).2.2 (by decide)
 obtain ⟨ad', e', hLE⟩ := hl16
 obtain rfl : ad = ad' := by simpa using e'
 obtain ⟨c', -, ⟨Ax, cx, rfl, hcx, hXC⟩, hx'⟩ := hLE 0 _ rfl
 have hx' : V16.cell? ad = some (.slice Ax 9 cx) := hx' 0 _ rfl
 clear hx
 gi_wp2
 have HQ16 := Kd.C_below HQ ((hb1115.trans (hb16.mono hb1115.size)))
 refine CallsIn.mono (callsIn_wide.2 (fleuronref03_SamePts.calls 20 Ax cx drawnWant _ 9 drawnWant true V16 hXC hcx HQ16 (by decide) drawn10)) ?_
 rintro e V17 ⟨rfl, hd⟩
 gi_wp2
 go_ret
 have hbz : Below V11.heap.size V11 V17 := hb1115.trans ((hb16.trans (hd.below.mono hb16.size)).mono hb1115.size)
 exact ⟨rfl, hb0.trans ((b1_11.trans (hbz.mono b1_11.size)).mono hb0.size)⟩
theorem fleuronlaw03_drawn.calls (r : Bool) (w : World) (h : fleuronlaw03_drawn.f = some r) : Calls Try.prog 21 #[] w fun e w' => e = .returned (.bool r) ∧ Below w.heap.size w w' := by
 simp only [fleuronlaw03_drawn.f, Option.some.injEq] at h
 subst h
 exact drawn_calls w
end Go.Proofs.Ytbmklpcheopgoaa.H
