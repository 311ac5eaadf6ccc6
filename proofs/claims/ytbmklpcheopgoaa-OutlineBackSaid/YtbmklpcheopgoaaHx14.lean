/- What the Go functions of this seat compute, as Lean functions, each with the proof that the call answers so; made by a program of this session. -/
import Derived.Test.YtbmklpcheopgoaaHx0
import Derived.Test.YtbmklpcheopgoaaHx4
import Derived.Test.YtbmklpcheopgoaaHx5
import Derived.Test.YtbmklpcheopgoaaHx6
import Derived.Test.YtbmklpcheopgoaaHx7
import Derived.Test.YtbmklpcheopgoaaHx8
import Derived.Test.YtbmklpcheopgoaaHx12
import Derived.Test.YtbmklpcheopgoaaHx13
import Derived.WalkKit
import Derived.Lib.Hide
import Derived.WalkSpells
import Derived.Test.YtbmklpcheopgoaaContours
import Derived.Test.YtbmklpcheopgoaaCallOps
namespace Go.Proofs.Ytbmklpcheopgoaa.H
open Go.RowKit Go.Proofs.YtbmklpcheopgoaaW.PrintWords Go.Proofs.YtbmklpcheopgoaaW.PrintLast Go.Proofs.YtbmklpcheopgoaaW.PrintMore
attribute [local go_sem] max2_int min2_int max_two min_two max_three min_three max_four min_four   -- for this text's walks alone
set_option linter.unusedVariables false
set_option linter.unusedSimpArgs false

/-! ### fleuronlaw03_drawn: function 21 -/
open Go.Proofs.YtbmklpcheopgoaaOps Go.Proofs.YtbmklpcheopgoaaIt Go.Proofs.YtbmklpcheopgoaaBlks Go.Proofs.YtbmklpcheopgoaaFlat Go.Proofs.YtbmklpcheopgoaaCallOps Go.Shelf
attribute [local go_sem] Oper.semAt_some wide_depth wide_fn World.cell?_alloc_some
def fleuronlaw03_drawn.f : Option Bool := some true
def drawnPts : List S33 := [⟨0, 0, true⟩, ⟨4, 0, true⟩, ⟨4, 4, true⟩, ⟨0, 4, true⟩]
def drawnRev : List S33 := [⟨0, 0, true⟩, ⟨0, 4, true⟩, ⟨4, 4, true⟩, ⟨4, 0, true⟩]
def drawnMov : List S33 := [⟨1, 2, true⟩, ⟨5, 2, true⟩, ⟨5, 6, true⟩, ⟨1, 6, true⟩]
def drawnTri : List S52 := [⟨0, 0⟩, ⟨64, 0⟩, ⟨64, 64⟩]
def drawnOn : List Bool := [true, false, true]
def drawnWant : List S52 := [⟨0, 0⟩, ⟨15, 1⟩, ⟨28, 4⟩, ⟨39, 9⟩, ⟨48, 16⟩, ⟨55, 25⟩, ⟨60, 36⟩, ⟨63, 49⟩, ⟨64, 64⟩]
theorem drawn1 : outline_Box.f drawnPts [3] = some (0, 0, false, 4, 4, false, true) := by kernel_rfl
theorem drawn2 : outline_Box.f [] [] = some (0, 0, false, 0, 0, false, false) := by kernel_rfl
theorem drawn3 : outline_Reversed.f drawnPts [3] = some (drawnRev, [3]) := by kernel_rfl
theorem drawn4 : outline_Moved.f 20 drawnPts [3] 1 2 = some (drawnMov, [3]) := by kernel_rfl
theorem drawn5 : outline_Lines.f drawnTri drawnOn [2] = some [drawnWant] := by kernel_rfl
theorem drawn6 : outline_Right.f 20 drawnPts [3] = some true := by kernel_rfl
theorem drawn7 : outline_Right.f 20 [] [0] = some false := by kernel_rfl
theorem drawn8 : outline_Area.f drawnPts [3] = some 32 := by kernel_rfl
theorem drawn9 : outline_Area.f drawnRev [3] = some (-32) := by kernel_rfl
theorem drawn10 : fleuronref03_SamePts.f 20 drawnWant drawnWant = some true := by kernel_rfl
theorem drawn_sl {α : Type} {d : Kd α} {e base : Nat} {ok : Nat → Prop} {w : World} {v : Value} {xs : List α} (h : d.R e w base ok v xs) {n : Nat} (hn : xs.length = n) : ∃ A c, v = .slice A n c := by
  obtain ⟨A, c, e⟩ := Kd.R_slice h
  exact ⟨A, c, by rw [e, hn]⟩
theorem drawn_reps {α : Type} {R : α → List Value → Prop} {size : Nat} (seg : α → List Value) (hs : ∀ x, (seg x).length = size) (hR : ∀ x, R x (seg x)) : ∀ xs : List α, Reps R size xs (xs.flatMap seg)
  | [] => Reps.none _ _
  | x :: xs => by
    have h1 : Reps R size [x] (seg x) := by simpa using Reps.snoc (Reps.none R size) (hR x) (hs x)
    simpa using Kd.reps_append h1 (drawn_reps seg hs hR xs)
theorem drawn_lit {α : Type} (d : Kd α) (seg : α → List Value) {w : World} (hs : ∀ x, (seg x).length = d.sz) (hK : ∀ x, d.K w x (seg x)) (xs : List α) (hm : xs.length ≤ 9223372036854775807) {g : Nat} {t : TypeId} (hb : w.heap[g]? = some (.cells (xs.flatMap seg).toArray t (0, 0))) : d.C w (some ⟨g, 0, none⟩) xs.length xs := by
  refine ⟨rfl, hm, fun _ => ⟨_, rfl, fun j p hj => ⟨seg p, hs p, hK p, fun i u hu => ?_⟩⟩⟩
  have h := (drawn_reps (R := fun x c => c = seg x) seg hs (fun _ => rfl) xs).2 j p hj
  have hi : i < d.sz := by have := (List.getElem?_eq_some_iff.1 hu).1; rw [hs] at this; exact this
  rw [← h, List.getElem?_take_of_lt hi, List.getElem?_drop] at hu
  have e : (⟨g, 0, none⟩ : Addr).add (j * d.sz + i) = ⟨g, j * d.sz + i, none⟩ := by simp [Addr.add]; omega
  rw [e, blk_cell hb]
  simpa using hu
set_option maxHeartbeats 8000000 in
set_option maxRecDepth 100000 in
theorem drawn_calls (w : World) : Calls Try.prog 21 #[] w fun e w' => e = .returned (.bool true) ∧ Below w.heap.size w w' := by
  have hu := Try.underlying25
  have hu2 := Try.underlying33
  have hu3 := Try.underlying52
  refine (callsIn_wide (n := 0)).1 (callsIn_of_wp Try.func21 rfl trivial ?_ rfl)
  simp only [Try.ntmps21, List.size_toArray, List.length_cons, List.length_nil, Nat.reduceAdd, Nat.reduceSub, Array.replicate_succ, Array.replicate_zero, List.push_toArray, List.append_toArray, List.nil_append, List.cons_append]
  gi_wp2
  refine CallsIn.mono (callsIn_wide.2 (fleuronlaw03_square.calls drawnPts [3] w rfl)) ?_
  rintro e V0 ⟨v0, v1, rfl, hR0, hR1, hb0⟩
  obtain ⟨Ap, cp, rfl⟩ := drawn_sl hR0 (n := 4) rfl
  obtain ⟨Ae, ce, rfl⟩ := drawn_sl hR1 (n := 1) rfl
  replace hR0 := R_own1 flat_pt hR0
  replace hR1 := R_own1 (flat_int .i64) hR1
  gi_wp2
  -- Box of o
  generalize hV : World.alloc V0 _ = V1
  have hB : Blks [(V0.heap.size, .cells #[.slice Ap 4 cp, .slice Ae 1 ce] 25 (0, 0))] V1 := by rw [← hV]; exact (Blks.nil V0).alloc _
  have hs1 : V1.heap.size = V0.heap.size + 1 := by rw [← hV]; simp
  have hb1 : Below V0.heap.size V0 V1 := by rw [← hV]; exact (Below.refl _ V0).alloc (Nat.le_refl _) _
  clear hV
  have HP := (Kd.R_reads' (R_chg hR0 (Chg.of_fresh (S := fun _ => False) hb1) (fun _ _ => id))).2
  have HE := (Kd.R_reads' (R_chg hR1 (Chg.of_fresh (S := fun _ => False) hb1) (fun _ _ => id))).2
  replace hb0 := hb0.trans (hb1.mono (by have := hb0.size; omega))
  clear hR0 hR1
  refine CallsIn.mono (callsIn_wide.2 (outline_Box.calls Ap cp drawnPts Ae ce [3] 0 0 false 4 4 false true V1 HP.2 HP.1 HE.2 HE.1 drawn1)) ?_
  rintro e V2 ⟨rfl, hb2⟩
  gi_wp2
  -- Box of nothing
  generalize hV : World.alloc (World.alloc V2 _) _ = V3
  have hB3 : Blks [(V2.heap.size + 1, .cells #[.int .i64 4, .int .i64 4, .bool false] 33 (0, 0)), (V2.heap.size, .cells #[.int .i64 0, .int .i64 0, .bool false] 33 (0, 0)), (V0.heap.size, .cells #[.slice Ap 4 cp, .slice Ae 1 ce] 25 (0, 0))] V3 := by rw [← hV]; exact ((hB.below hb2).alloc _).alloc_at _ (by simp)
  have hs3 : V3.heap.size = V2.heap.size + 1 + 1 := by rw [← hV]; simp
  have hb3 : Below V1.heap.size V1 V3 := by rw [← hV]; exact (hb2.alloc hb2.size _).alloc (by simp; have := hb2.size; omega) _
  clear hV hB
  refine CallsIn.mono (callsIn_wide.2 (outline_Box.calls none 0 [] none 0 [] 0 0 false 0 0 false false V3 (Kd.C_nil _ _) (Nat.le_refl _) (Kd.C_nil _ _) (Nat.le_refl _) drawn2)) ?_
  rintro e V4 ⟨rfl, hb4⟩
  have hB4 := hB3.below hb4
  have c1 := hB4.cell 2 rfl 0
  have c2 := hB4.cell 2 rfl 1
  have f1 := hB4.free 2 rfl 0
  have f2 := hB4.free 2 rfl 1
  simp only [List.getElem?_toArray, List.getElem?_cons_zero, List.getElem?_cons_succ] at c1 c2
  gi_wp2
  -- Reversed
  generalize hV : World.alloc (World.alloc V4 _) _ = V5
  have hB5 : Blks [(V4.heap.size + 1, .cells #[.int .i64 0, .int .i64 0, .bool false] 33 (0, 0)), (V4.heap.size, .cells #[.int .i64 0, .int .i64 0, .bool false] 33 (0, 0)), (V2.heap.size + 1, .cells #[.int .i64 4, .int .i64 4, .bool false] 33 (0, 0)), (V2.heap.size, .cells #[.int .i64 0, .int .i64 0, .bool false] 33 (0, 0)), (V0.heap.size, .cells #[.slice Ap 4 cp, .slice Ae 1 ce] 25 (0, 0))] V5 := by rw [← hV]; exact (hB4.alloc _).alloc_at _ (by simp)
  have hb5 : Below V1.heap.size V1 V5 := by rw [← hV]; exact hb3.trans (((hb4.alloc hb4.size _).alloc (by simp; have := hb4.size; omega) _).mono hb3.size)
  replace hB5 := hB5.sub (H' := [(V2.heap.size + 1, .cells #[.int .i64 4, .int .i64 4, .bool false] 33 (0, 0)), (V2.heap.size, .cells #[.int .i64 0, .int .i64 0, .bool false] 33 (0, 0)), (V0.heap.size, .cells #[.slice Ap 4 cp, .slice Ae 1 ce] 25 (0, 0))]) (((List.Sublist.refl _).cons _).cons _)
  clear hV hB3 hB4 c1 c2 f1 f2 hb4
  refine CallsIn.mono (callsIn_wide.2 (outline_Reversed.calls Ap cp drawnPts Ae ce [3] drawnRev [3] V5 (Kd.C_below HP.2 hb5) HP.1 (Kd.C_below HE.2 hb5) HE.1 drawn3)) ?_
  rintro e V6 ⟨v0, v1, rfl, hR0, hR1, hb6⟩
  obtain ⟨Ar, cr, rfl⟩ := drawn_sl hR0 (n := 4) rfl
  obtain ⟨As, cs, rfl⟩ := drawn_sl hR1 (n := 1) rfl
  replace hR0 := (Kd.R_reads' hR0).2
  replace hR1 := (Kd.R_reads' hR1).2
  have hB6 := hB5.below hb6
  have c1 := hB6.cell 2 rfl 0
  have c2 := hB6.cell 2 rfl 1
  have f1 := hB6.free 2 rfl 0
  have f2 := hB6.free 2 rfl 1
  simp only [List.getElem?_toArray, List.getElem?_cons_zero, List.getElem?_cons_succ] at c1 c2
  gi_wp2
  -- Moved
  generalize hV : World.alloc V6 _ = V7
  have hB7 : Blks [(V6.heap.size, .cells #[.slice Ar 4 cr, .slice As 1 cs] 25 (0, 0)), (V2.heap.size + 1, .cells #[.int .i64 4, .int .i64 4, .bool false] 33 (0, 0)), (V2.heap.size, .cells #[.int .i64 0, .int .i64 0, .bool false] 33 (0, 0)), (V0.heap.size, .cells #[.slice Ap 4 cp, .slice Ae 1 ce] 25 (0, 0))] V7 := by rw [← hV]; exact hB6.alloc _
  have hb7 : Below V6.heap.size V6 V7 := by rw [← hV]; exact (Below.refl _ V6).alloc (Nat.le_refl _) _
  have hb57 : Below V1.heap.size V1 V7 := hb5.trans ((hb6.trans (hb7.mono hb6.size)).mono hb5.size)
  have HR := Kd.C_below hR0.2 hb7
  have HS := Kd.C_below hR1.2 hb7
  clear hV hB5 hB6 c1 c2 f1 f2 hb5 hb3 hb6
  refine CallsIn.mono (callsIn_wide.2 (outline_Moved.calls 20 Ap cp drawnPts Ae ce [3] 1 2 drawnMov [3] V7 (Kd.C_below HP.2 hb57) HP.1 (Kd.C_below HE.2 hb57) HE.1 drawn4)) ?_
  rintro e V8 ⟨v0, v1, rfl, hM0, hM1, hb8⟩
  obtain ⟨Am, cm, rfl⟩ := drawn_sl hM0 (n := 4) rfl
  obtain ⟨An, cn, rfl⟩ := drawn_sl hM1 (n := 1) rfl
  replace hM0 := (Kd.R_reads' hM0).2
  replace hM1 := (Kd.R_reads' hM1).2
  have hB8 := hB7.below hb8
  gi_wp2
  -- Lines
  generalize hV : World.alloc (World.alloc (World.alloc (World.alloc V8 _) _) _) _ = V9
  have hb9 : Below V8.heap.size V8 V9 := by rw [← hV]; exact ((((Below.refl _ V8).alloc (Nat.le_refl _) _).alloc (by simp) _).alloc (by simp; omega) _).alloc (by simp; omega) _
  have hB9 : Blks [(V8.heap.size + 1 + 1 + 1, .cells #[.int .i64 2] 3 (0, 0)), (V8.heap.size + 1 + 1, .cells #[.bool true, .bool false, .bool true] 4 (0, 0)), (V8.heap.size + 1, .cells #[.int .i64 0, .int .i64 0, .int .i64 64, .int .i64 0, .int .i64 64, .int .i64 64] 52 (0, 0)), (V8.heap.size, .cells #[.slice Am 4 cm, .slice An 1 cn] 25 (0, 0)), (V6.heap.size, .cells #[.slice Ar 4 cr, .slice As 1 cs] 25 (0, 0)), (V2.heap.size + 1, .cells #[.int .i64 4, .int .i64 4, .bool false] 33 (0, 0)), (V2.heap.size, .cells #[.int .i64 0, .int .i64 0, .bool false] 33 (0, 0)), (V0.heap.size, .cells #[.slice Ap 4 cp, .slice Ae 1 ce] 25 (0, 0))] V9 := by rw [← hV]; exact (((hB8.alloc _).alloc_at _ (by simp)).alloc_at _ (by simp)).alloc_at _ (by simp)
  have HT : Kd.C k52 V9 (some ⟨V8.heap.size + 1, 0, none⟩) drawnTri.length drawnTri := drawn_lit _ (fun x => [.int .i64 x.f0, .int .i64 x.f1]) (fun _ => rfl) (fun x => k52_mk _ x) _ (by decide) (hB9.blk 2 rfl)
  have HO : Kd.C Kd.bool V9 (some ⟨V8.heap.size + 1 + 1, 0, none⟩) drawnOn.length drawnOn := drawn_lit _ (fun x => [.bool x]) (fun _ => rfl) (fun x => rfl) _ (by decide) (hB9.blk 1 rfl)
  have HN : Kd.C (Kd.int .i64) V9 (some ⟨V8.heap.size + 1 + 1 + 1, 0, none⟩) [(2 : Int)].length [2] := drawn_lit _ (fun x => [.int .i64 x]) (fun _ => rfl) (fun x => rfl) _ (by decide) (hB9.blk 0 rfl)
  replace hB9 := hB9.tail.tail.tail
  clear hV hB8 hB7
  refine CallsIn.mono (callsIn_wide.2 (outline_Lines.calls _ 3 drawnTri _ 3 drawnOn _ 1 [2] [drawnWant] V9 HT (by decide) HO (by decide) HN (by decide) drawn5)) ?_
  rintro e V10 ⟨v0, rfl, hL, hb10⟩
  obtain ⟨Al, cl, rfl⟩ := Kd.S_slice hL
  simp only [List.length_cons, List.length_nil, Nat.zero_add] at hL ⊢
  obtain ⟨-, hcl, hLC⟩ := Kd.S_reads' hL
  clear hL
  obtain ⟨ad, rfl, hLD⟩ := hLC.2.2 (by decide)
  obtain ⟨c, -, ⟨Aw, cw, rfl, hcw, hWC⟩, hx⟩ := hLD 0 _ rfl
  have hx := hx 0 _ rfl
  have hB10 := hB9.below hb10
  have m0 := hB10.cell 0 rfl 0
  have m1 := hB10.cell 0 rfl 1
  have r0 := hB10.cell 1 rfl 0
  have r1 := hB10.cell 1 rfl 1
  have o0 := hB10.cell 4 rfl 0
  have o1 := hB10.cell 4 rfl 1
  have h0 := hB10.cell 2 rfl 0
  have h1 := hB10.cell 2 rfl 1
  have h2 := hB10.cell 2 rfl 2
  have l0 := hB10.cell 3 rfl 0
  have l1 := hB10.cell 3 rfl 1
  have l2 := hB10.cell 3 rfl 2
  simp only [List.getElem?_toArray, List.getElem?_cons_zero, List.getElem?_cons_succ] at m0 m1 r0 r1 o0 o1 h0 h1 h2 l0 l1 l2
  gi_wp2
  -- Right of o
  generalize hV : World.alloc V10 _ = V11
  have hb11 : Below V10.heap.size V10 V11 := by rw [← hV]; exact (Below.refl _ V10).alloc (Nat.le_refl _) _
  have hW11 := (hB10.alloc (.cells #[.int .i64 0, .int .i64 0, .int .i64 15, .int .i64 1, .int .i64 28, .int .i64 4, .int .i64 39, .int .i64 9, .int .i64 48, .int .i64 16, .int .i64 55, .int .i64 25, .int .i64 60, .int .i64 36, .int .i64 63, .int .i64 49, .int .i64 64, .int .i64 64] 52 (0, 0)))
  rw [hV] at hW11
  have HQ : Kd.C k52 V11 (some ⟨V10.heap.size, 0, none⟩) drawnWant.length drawnWant := drawn_lit _ (fun x => [.int .i64 x.f0, .int .i64 x.f1]) (fun _ => rfl) (fun x => k52_mk _ x) _ (by decide) (hW11.blk 0 rfl)
  have hB11 := hW11.tail
  clear hV hW11
  clear m0 m1 r0 r1 o0 o1 h0 h1 h2 l0 l1 l2
  have b1_11 : Below V1.heap.size V1 V11 := hb57.trans ((hb8.trans ((hb9.trans ((hb10.trans (hb11.mono hb10.size)).mono hb9.size)).mono hb8.size)).mono hb57.size)
  refine CallsIn.mono (callsIn_wide.2 (outline_Right.calls 20 Ap cp drawnPts Ae ce [3] true V11 (Kd.C_below HP.2 b1_11) HP.1 (Kd.C_below HE.2 b1_11) HE.1 drawn6)) ?_
  rintro e V12 ⟨rfl, hb12⟩
  have hB12 := hB11.below hb12
  have m0 := hB12.cell 0 rfl 0
  have m1 := hB12.cell 0 rfl 1
  have r0 := hB12.cell 1 rfl 0
  have r1 := hB12.cell 1 rfl 1
  have o0 := hB12.cell 4 rfl 0
  have o1 := hB12.cell 4 rfl 1
  have h0 := hB12.cell 2 rfl 0
  have h1 := hB12.cell 2 rfl 1
  have h2 := hB12.cell 2 rfl 2
  have l0 := hB12.cell 3 rfl 0
  have l1 := hB12.cell 3 rfl 1
  have l2 := hB12.cell 3 rfl 2
  simp only [List.getElem?_toArray, List.getElem?_cons_zero, List.getElem?_cons_succ] at m0 m1 r0 r1 o0 o1 h0 h1 h2 l0 l1 l2
  gi_wp2
  -- Right of what may not be
  generalize hV : World.alloc V12 _ = V13
  have hb13 : Below V12.heap.size V12 V13 := by rw [← hV]; exact (Below.refl _ V12).alloc (Nat.le_refl _) _
  have hZ := hB12.alloc (.cells #[.int .i64 0] 3 (0, 0))
  rw [hV] at hZ
  have HZ : Kd.C (Kd.int .i64) V13 (some ⟨V12.heap.size, 0, none⟩) [(0 : Int)].length [0] := drawn_lit _ (fun x => [.int .i64 x]) (fun _ => rfl) (fun x => rfl) _ (by decide) (hZ.blk 0 rfl)
  have hB13 := hZ.tail
  clear hV hZ
  clear m0 m1 r0 r1 o0 o1 h0 h1 h2 l0 l1 l2
  refine CallsIn.mono (callsIn_wide.2 (outline_Right.calls 20 none 0 [] _ 1 [0] false V13 (Kd.C_nil _ _) (Nat.le_refl _) HZ (by decide) drawn7)) ?_
  rintro e V14 ⟨rfl, hb14⟩
  have hB14 := hB13.below hb14
  have m0 := hB14.cell 0 rfl 0
  have m1 := hB14.cell 0 rfl 1
  have r0 := hB14.cell 1 rfl 0
  have r1 := hB14.cell 1 rfl 1
  have o0 := hB14.cell 4 rfl 0
  have o1 := hB14.cell 4 rfl 1
  have h0 := hB14.cell 2 rfl 0
  have h1 := hB14.cell 2 rfl 1
  have h2 := hB14.cell 2 rfl 2
  have l0 := hB14.cell 3 rfl 0
  have l1 := hB14.cell 3 rfl 1
  have l2 := hB14.cell 3 rfl 2
  simp only [List.getElem?_toArray, List.getElem?_cons_zero, List.getElem?_cons_succ] at m0 m1 r0 r1 o0 o1 h0 h1 h2 l0 l1 l2
  gi_wp2
  -- Area of o
  clear m0 m1 r0 r1 o0 o1 h0 h1 h2 l0 l1 l2
  have hb1114 : Below V11.heap.size V11 V14 := hb12.trans ((hb13.trans (hb14.mono hb13.size)).mono hb12.size)
  have b1_14 : Below V1.heap.size V1 V14 := b1_11.trans (hb1114.mono b1_11.size)
  refine CallsIn.mono (callsIn_wide.2 (outline_Area.calls Ap cp drawnPts Ae ce [3] 32 V14 (Kd.C_below HP.2 b1_14) HP.1 (Kd.C_below HE.2 b1_14) HE.1 drawn8)) ?_
  rintro e V15 ⟨rfl, hb15⟩
  have hB15 := hB14.below hb15
  have m0 := hB15.cell 0 rfl 0
  have m1 := hB15.cell 0 rfl 1
  have r0 := hB15.cell 1 rfl 0
  have r1 := hB15.cell 1 rfl 1
  have o0 := hB15.cell 4 rfl 0
  have o1 := hB15.cell 4 rfl 1
  have h0 := hB15.cell 2 rfl 0
  have h1 := hB15.cell 2 rfl 1
  have h2 := hB15.cell 2 rfl 2
  have l0 := hB15.cell 3 rfl 0
  have l1 := hB15.cell 3 rfl 1
  have l2 := hB15.cell 3 rfl 2
  simp only [List.getElem?_toArray, List.getElem?_cons_zero, List.getElem?_cons_succ] at m0 m1 r0 r1 o0 o1 h0 h1 h2 l0 l1 l2
  gi_wp2
  -- Area of r
  clear m0 m1 r0 r1 o0 o1 h0 h1 h2 l0 l1 l2
  have hb1115 : Below V11.heap.size V11 V15 := hb1114.trans (hb15.mono hb1114.size)
  have hb811 : Below V8.heap.size V8 V11 := hb9.trans ((hb10.trans (hb11.mono hb10.size)).mono hb9.size)
  have hb815 : Below V8.heap.size V8 V15 := hb811.trans (hb1115.mono hb811.size)
  have hb715 : Below V7.heap.size V7 V15 := hb8.trans (hb815.mono hb8.size)
  refine CallsIn.mono (callsIn_wide.2 (outline_Area.calls Ar cr drawnRev As cs [3] (-32) V15 (Kd.C_below HR hb715) hR0.1 (Kd.C_below HS hb715) hR1.1 drawn9)) ?_
  rintro e V16 ⟨rfl, hb16⟩
  have hB16 := hB15.below hb16
  have m0 := hB16.cell 0 rfl 0
  have m1 := hB16.cell 0 rfl 1
  have r0 := hB16.cell 1 rfl 0
  have r1 := hB16.cell 1 rfl 1
  have o0 := hB16.cell 4 rfl 0
  have o1 := hB16.cell 4 rfl 1
  have h0 := hB16.cell 2 rfl 0
  have h1 := hB16.cell 2 rfl 1
  have h2 := hB16.cell 2 rfl 2
  have l0 := hB16.cell 3 rfl 0
  have l1 := hB16.cell 3 rfl 1
  have l2 := hB16.cell 3 rfl 2
  simp only [List.getElem?_toArray, List.getElem?_cons_zero, List.getElem?_cons_succ] at m0 m1 r0 r1 o0 o1 h0 h1 h2 l0 l1 l2
  have HR16 := Kd.C_below (Kd.C_below HR hb715) hb16
  have HM16 := Kd.C_below (Kd.C_below hM0.2 hb815) hb16
  obtain ⟨ar, rfl, HRc⟩ := HR16.2.2 (by decide)
  obtain ⟨am, rfl, HMc⟩ := HM16.2.2 (by decide)
  obtain ⟨cr1, -, kr1, xr1⟩ := HRc 1 _ rfl
  obtain ⟨cm0, -, km0, xm0⟩ := HMc 0 _ rfl
  obtain rfl := k33_open kr1
  obtain rfl := k33_open km0
  have yr : V16.cell? ⟨ar.block, ar.off + 3 + 1, none⟩ = some (.int .i64 4) := xr1 1 _ rfl
  have ym : V16.cell? ⟨am.block, am.off + 1, none⟩ = some (.int .i64 2) := xm0 1 _ rfl
  have hb1016 : Below V10.heap.size V10 V16 := hb11.trans ((hb1115.trans (hb16.mono hb1115.size)).mono hb11.size)
  have hl16 := (Kd.C_below hLC hb1016).2.2 (by decide)
  obtain ⟨ad', e', hLE⟩ := hl16
  obtain rfl : ad = ad' := by simpa using e'
  obtain ⟨c', -, ⟨Ax, cx, rfl, hcx, hXC⟩, hx'⟩ := hLE 0 _ rfl
  have hx' : V16.cell? ad = some (.slice Ax 9 cx) := hx' 0 _ rfl
  clear hx
  gi_wp2
  have HQ16 := Kd.C_below HQ ((hb1115.trans (hb16.mono hb1115.size)))
  refine CallsIn.mono (callsIn_wide.2 (fleuronref03_SamePts.calls 20 Ax cx drawnWant _ 9 drawnWant true V16 hXC hcx HQ16 (by decide) drawn10)) ?_
  rintro e V17 ⟨rfl, hd⟩
  gi_wp2
  go_ret
  have hbz : Below V11.heap.size V11 V17 := hb1115.trans ((hb16.trans (hd.below.mono hb16.size)).mono hb1115.size)
  exact ⟨rfl, hb0.trans ((b1_11.trans (hbz.mono b1_11.size)).mono hb0.size)⟩
theorem fleuronlaw03_drawn.calls (r : Bool) (w : World) (h : fleuronlaw03_drawn.f = some r) : Calls Try.prog 21 #[] w fun e w' => e = .returned (.bool r) ∧ Below w.heap.size w w' := by
  simp only [fleuronlaw03_drawn.f, Option.some.injEq] at h
  subst h
  exact drawn_calls w

end Go.Proofs.Ytbmklpcheopgoaa.H
