/- Texts of this session, one behind the other, for the statement OutlineTells: what its functions compute, plain facts, and (last) its row. No condition besides those stated. -/
import Derived.Test.YtbmklpcheopgoaaWWords
import Derived.Test.YtbmklpcheopgoaaWLast
import Derived.Test.YtbmklpcheopgoaaWApart
import Derived.Test.YtbmklpcheopgoaaProg
import Derived.Below
import Derived.Deep.Draws
import Derived.Deep.AppendLies
import Derived.Maps.AppendAt
import Derived.OwnWalk
import Derived.Laws.BytesArg
import Derived.Laws.MakeOwn
import Derived.Laws.OwnMore
import Derived.Deep.OwnRows
import Derived.Tactics
import Derived.Lib.ConvBytes
import Derived.Laws.Slices
import Derived.WalkKit
import Derived.KernelRfl
import Derived.RowKit3
import Derived.Deep.LoopGhost
import Derived.Deep.QuietTactic
import Derived.BigQuiet
import Derived.WideLaws
import Derived.Deep.DeepCutAuto
import Derived.Deep.CutBlock
import Derived.Deep.RegionHeld3
import Derived.Laws.Rows
import Derived.Lib.AppendStr
import Derived.ArgAppend
import Derived.Laws.IdiomCopy
import Derived.OrdersHeld
import Derived.Laws.BitsLemmas
import Derived.RowKit
import Derived.Test.YtbmklpcheopgoaaWTab
import Derived.Test.YtbmklpcheopgoaaWEqStruct
import Derived.Test.YtbmklpcheopgoaaWRepsOne
import Derived.Test.YtbmklpcheopgoaaWGuard
import Derived.RangeFuncNested
import Derived.RangeFuncBound
import Derived.RangeFuncCalls
import Derived.RangeFuncLeaves
import Derived.OwnWalkIn
import Derived.Lib.Hide
import Derived.Shelf.RegionOpen
import Derived.Shelf.Abstract
import Derived.TacticsInMore
import Derived.LoopNIn
import Derived.LoopIn
import Derived.Outline
import Derived.OrdersIn
import Derived.DefersIn
import Derived.BigRegionIn
import Derived.Stop.RegionWithIn
import Derived.WalkSpells
set_option linter.unusedVariables false
set_option linter.unusedSimpArgs false
namespace Go.Proofs.YtbmklpcheopgoaaW.PrintMore
open Go.RowKit Go.Proofs.YtbmklpcheopgoaaW.PrintWords
theorem max2_int (k k' : IntKind) (x y : Int) : Builtin.max2 (.int k x) (.int k' y) = pure (.int k (if x < y then y else x)) := by simp only [Builtin.max2, gt_iff_lt]
theorem min2_int (k k' : IntKind) (x y : Int) : Builtin.min2 (.int k x) (.int k' y) = pure (.int k (if y < x then y else x)) := by simp only [Builtin.min2]
theorem max_two (ats : Array TypeId) (ty : TypeId) (a b : Value) : Builtin.max_ ats ty #[a, b] = (Builtin.max2 a b >>= fun s => pure s) := by simp only [Builtin.max_, List.foldlM_cons, List.foldlM_nil]
theorem min_two (ats : Array TypeId) (ty : TypeId) (a b : Value) : Builtin.min_ ats ty #[a, b] = (Builtin.min2 a b >>= fun s => pure s) := by simp only [Builtin.min_, List.foldlM_cons, List.foldlM_nil]
theorem max_three (ats : Array TypeId) (ty : TypeId) (a b c : Value) : Builtin.max_ ats ty #[a, b, c] = (Builtin.max2 a b >>= fun s => Builtin.max2 s c >>= fun s => pure s) := by simp only [Builtin.max_, List.foldlM_cons, List.foldlM_nil]
theorem min_three (ats : Array TypeId) (ty : TypeId) (a b c : Value) : Builtin.min_ ats ty #[a, b, c] = (Builtin.min2 a b >>= fun s => Builtin.min2 s c >>= fun s => pure s) := by simp only [Builtin.min_, List.foldlM_cons, List.foldlM_nil]
theorem max_four (ats : Array TypeId) (ty : TypeId) (a b c d : Value) : Builtin.max_ ats ty #[a, b, c, d] = (Builtin.max2 a b >>= fun s => Builtin.max2 s c >>= fun s => Builtin.max2 s d >>= fun s => pure s) := by simp only [Builtin.max_, List.foldlM_cons, List.foldlM_nil]
theorem min_four (ats : Array TypeId) (ty : TypeId) (a b c d : Value) : Builtin.min_ ats ty #[a, b, c, d] = (Builtin.min2 a b >>= fun s => Builtin.min2 s c >>= fun s => Builtin.min2 s d >>= fun s => pure s) := by simp only [Builtin.min_, List.foldlM_cons, List.foldlM_nil]
def mx (a b : Int) : Int := if a < b then b else a
def mn (a b : Int) : Int := if b < a then b else a
end Go.Proofs.YtbmklpcheopgoaaW.PrintMore
namespace Go.Proofs.YtbmklpcheopgoaaW.PrintWords
open Go.RowKit
theorem gate_callee {P : Program} {ops : Array Oper} {rest : List Oper} {o : Oper} {a : Act} {Q : Exit → Act → World → Prop} {W : World} {f : FuncId} {avs : Array Operand} {ts : Array TypeId} (_ho : o.op = .call { callee := .value (.func f), args := avs, argTypes := ts }) (h : wpList P ops Q (o :: rest) a W) : wpList P ops Q (o :: rest) a W := h
theorem gate_builtin {P : Program} {ops : Array Oper} {rest : List Oper} {o : Oper} {a : Act} {Q : Exit → Act → World → Prop} {W : World} {b : Builtin} {xs : Array Operand} {ts : Array TypeId} (_ho : o.op = .call { callee := .builtin b, args := xs, argTypes := ts }) (h : wpList P ops Q (o :: rest) a W) : wpList P ops Q (o :: rest) a W := h
/-! Short names. -/
theorem bA {w W : World} (h : Below w.heap.size w W) (o : Obj) : Below w.heap.size w (W.alloc o) := below_alloc h o
theorem bN {B : Nat} {w W : World} (h : Below B w W) (n : Nat) : Below B w (W.drewN n) := pw_below_drewN h n
theorem bD {base : Nat} {w W : World} (h : Below base w W) : Below base w W.drew := below_drew1 h
theorem bS {w W : World} {g j : Nat} {v : Value} (h : Below w.heap.size w W) (hg : w.heap.size ≤ g) : Below w.heap.size w (W.setCell ⟨g, j, none⟩ v) := below_set h hg
theorem kA {w : World} {g : Nat} {o : Obj} (h : w.heap[g]? = some o) (o' : Obj) : (w.alloc o').heap[g]? = some o := blk_alloc h o'
theorem kN {w : World} {g : Nat} {o : Obj} (h : w.heap[g]? = some o) (n : Nat) : (w.drewN n).heap[g]? = some o := blk_drewN h n
theorem kD {w : World} {g : Nat} {o : Obj} (h : w.heap[g]? = some o) : w.drew.heap[g]? = some o := blk_drew h
theorem aM {p : Prop} (h : p) : Aside0 p := ⟨h⟩
theorem dT {p : Prop} [Decidable p] (h : decide p = true) : p := of_decide_eq_true h
end Go.Proofs.YtbmklpcheopgoaaW.PrintWords

namespace Go.Proofs.Ytbmklpcheopgoaa.H
open Go.RowKit Go.Proofs.YtbmklpcheopgoaaW.PrintWords Go.Proofs.YtbmklpcheopgoaaW.PrintLast Go.Proofs.YtbmklpcheopgoaaW.PrintMore
attribute [local go_sem] max2_int min2_int max_two min_two max_three min_three max_four min_four
set_option linter.unusedVariables false
set_option linter.unusedSimpArgs false
def errW : Option Int → Value
 | none => .nilIface
 | some c => .iface 0 (.int .i64 c)
theorem errW_none : errW none = .nilIface := rfl
theorem errW_some (c : Int) : errW (some c) = .iface 0 (.int .i64 c) := rfl
theorem info3 : (Try.prog.info? 3).map (fun i => (i.zero, i.size, i.bytes)) = some (some (.int .i64 0), 1, 8) := by kernel_rfl
theorem info4 : (Try.prog.info? 4).map (fun i => (i.zero, i.size, i.bytes)) = some (some (.bool false), 1, 1) := by kernel_rfl
theorem info22 : (Try.prog.info? 22).map (fun i => (i.zero, i.size, i.bytes)) = some (some (.slice none 0 0), 1, 24) := by kernel_rfl
theorem info33 : (Try.prog.info? 33).map (fun i => (i.zero, i.size, i.bytes)) = some (some (.agg #[(.int .i64 0), (.int .i64 0), (.bool false)]), 3, 24) := by kernel_rfl
theorem info42 : (Try.prog.info? 42).map (fun i => (i.zero, i.size, i.bytes)) = some (some (.slice none 0 0), 1, 24) := by kernel_rfl
theorem info52 : (Try.prog.info? 52).map (fun i => (i.zero, i.size, i.bytes)) = some (some (.agg #[(.int .i64 0), (.int .i64 0)]), 2, 16) := by kernel_rfl
theorem info64 : (Try.prog.info? 64).map (fun i => (i.zero, i.size, i.bytes)) = some (some (.agg #[(.int .i64 0), (.int .i64 0)]), 2, 16) := by kernel_rfl
theorem info101 : (Try.prog.info? 101).map (fun i => (i.zero, i.size, i.bytes)) = some (some (.agg #[(.int .i64 0), (.int .i64 0), (.bool false)]), 3, 24) := by kernel_rfl
theorem info106 : (Try.prog.info? 106).map (fun i => (i.zero, i.size, i.bytes)) = some (some (.agg #[(.int .i64 0), (.int .i64 0), (.bool false)]), 3, 24) := by kernel_rfl
-- the values' own types
structure S33 where
 f0 : Int
 f1 : Int
 f2 : Bool
def z33 : S33 := ⟨(0 : Int), (0 : Int), false⟩
def k33 : Kd S33 := Kd.iso (Kd.pair (Kd.int .i64) (Kd.pair (Kd.int .i64) Kd.bool)) (fun x : S33 => (x.f0, x.f1, x.f2))
theorem k33_open {w : World} {x : S33} {cs : List Value} (h : k33.K w x cs) : cs = [.int .i64 x.f0, .int .i64 x.f1, .bool x.f2] := by
 obtain ⟨_, _, rfl, rfl, ⟨_, _, rfl, rfl, rfl⟩⟩ := h
 exact rfl
theorem k33_openM {w : World} {base : Nat} {ok : Nat → Prop} {x : S33} {cs : List Value} (h : k33.M w base ok x cs) : cs = [.int .i64 x.f0, .int .i64 x.f1, .bool x.f2] := by
 obtain ⟨_, _, rfl, rfl, ⟨_, _, rfl, rfl, rfl⟩⟩ := h
 exact rfl
theorem k33_mk (w : World) (x : S33)  : k33.K w x [.int .i64 x.f0, .int .i64 x.f1, .bool x.f2] := ⟨[.int .i64 x.f0], [.int .i64 x.f1, .bool x.f2], rfl, rfl, ⟨[.int .i64 x.f1], [.bool x.f2], rfl, rfl, rfl⟩⟩
theorem k33_mkM (w : World) (base : Nat) (ok : Nat → Prop) (x : S33)  : k33.M w base ok x [.int .i64 x.f0, .int .i64 x.f1, .bool x.f2] := ⟨[.int .i64 x.f0], [.int .i64 x.f1, .bool x.f2], rfl, rfl, ⟨[.int .i64 x.f1], [.bool x.f2], rfl, rfl, rfl⟩⟩
def rd_T33 (xs : List S33) (i : Int) : S33 := xs.getD i.toNat z33
theorem at_T33 {w : World} {A : Option Addr} {n : Nat} {xs : List S33} (h : Kd.C k33 w A n xs) (i : Int) (h0 : 0 ≤ i) (h1 : i < n) : ∃ ad , A = some ad ∧ w.cell? (ad.add (i.toNat * 3)) = some (.int .i64 (rd_T33 xs i).f0) ∧ w.cell? ⟨(ad.add (i.toNat * 3)).block, (ad.add (i.toNat * 3)).off + 1, none⟩ = some (.int .i64 (rd_T33 xs i).f1) ∧ w.cell? ⟨(ad.add (i.toNat * 3)).block, (ad.add (i.toNat * 3)).off + 2, none⟩ = some (.bool (rd_T33 xs i).f2) := by
 obtain ⟨ad, c, e, _, hK, hc0⟩ := Kd.C_get h z33 i h0 h1
 have hc : ∀ j u, c[j]? = some u → w.cell? (ad.add (i.toNat * 3 + j)) = some u := hc0
 obtain rfl := k33_open hK
 exact ⟨ad, e, hc 0 _ rfl, by rw [← add_field _ _ 1 (by omega)]; exact hc 1 _ rfl, by rw [← add_field _ _ 2 (by omega)]; exact hc 2 _ rfl⟩
def rd_L3 (xs : List (List S33)) (i : Int) : (List S33) := xs.getD i.toNat ([] : List S33)
theorem at_L3 {w : World} {A : Option Addr} {n : Nat} {xs : List (List S33)} (h : Kd.C (Kd.slice 33 k33) w A n xs) (i : Int) (h0 : 0 ≤ i) (h1 : i < n) : ∃ ad A0 c0, A = some ad ∧ w.cell? (ad.add i.toNat) = some (.slice A0 (rd_L3 xs i).length c0) ∧ (rd_L3 xs i).length ≤ c0 ∧ k33.C w A0 (rd_L3 xs i).length (rd_L3 xs i) := by
 obtain ⟨ad, c, e, _, hK, hc0⟩ := Kd.C_get h ([] : List S33) i h0 h1
 have hc : ∀ j u, c[j]? = some u → w.cell? (ad.add (i.toNat * 1 + j)) = some u := hc0
 obtain ⟨A0, c0, rfl, l0, g0⟩ := hK
 exact ⟨ad, A0, c0, e, by have hq := hc 0 _ rfl; rwa [Nat.mul_one, Nat.add_zero] at hq, l0, g0⟩
def rd_L4 (xs : List (List Int)) (i : Int) : (List Int) := xs.getD i.toNat ([] : List Int)
theorem at_L4 {w : World} {A : Option Addr} {n : Nat} {xs : List (List Int)} (h : Kd.C (Kd.slice 3 (Kd.int .i64)) w A n xs) (i : Int) (h0 : 0 ≤ i) (h1 : i < n) : ∃ ad A0 c0, A = some ad ∧ w.cell? (ad.add i.toNat) = some (.slice A0 (rd_L4 xs i).length c0) ∧ (rd_L4 xs i).length ≤ c0 ∧ (Kd.int .i64).C w A0 (rd_L4 xs i).length (rd_L4 xs i) := by
 obtain ⟨ad, c, e, _, hK, hc0⟩ := Kd.C_get h ([] : List Int) i h0 h1
 have hc : ∀ j u, c[j]? = some u → w.cell? (ad.add (i.toNat * 1 + j)) = some u := hc0
 obtain ⟨A0, c0, rfl, l0, g0⟩ := hK
 exact ⟨ad, A0, c0, e, by have hq := hc 0 _ rfl; rwa [Nat.mul_one, Nat.add_zero] at hq, l0, g0⟩
structure S25 where
 f0 : (List S33)
 f1 : (List Int)
def z25 : S25 := ⟨([] : List S33), ([] : List Int)⟩
def k25 : Kd S25 := Kd.iso (Kd.pair (Kd.slice 33 k33) (Kd.slice 3 (Kd.int .i64))) (fun x : S25 => (x.f0, x.f1))
theorem k25_open {w : World} {x : S25} {cs : List Value} (h : k25.K w x cs) : ∃ A0 c0 A1 c1, cs = [.slice A0 x.f0.length c0, .slice A1 x.f1.length c1] ∧ x.f0.length ≤ c0 ∧ k33.C w A0 x.f0.length x.f0 ∧ x.f1.length ≤ c1 ∧ (Kd.int .i64).C w A1 x.f1.length x.f1 := by
 obtain ⟨_, _, rfl, ⟨A0, c0, rfl, l0, g0⟩, ⟨A1, c1, rfl, l1, g1⟩⟩ := h
 exact ⟨A0, c0, A1, c1, rfl, l0, g0, l1, g1⟩
theorem k25_openM {w : World} {base : Nat} {ok : Nat → Prop} {x : S25} {cs : List Value} (h : k25.M w base ok x cs) : ∃ v0 v1, cs = [v0, v1] ∧ k33.R 33 w base ok v0 x.f0 ∧ (Kd.int .i64).R 3 w base ok v1 x.f1 := by
 obtain ⟨_, _, rfl, ⟨v0, rfl, g0⟩, ⟨v1, rfl, g1⟩⟩ := h
 exact ⟨v0, v1, rfl, g0, g1⟩
theorem k25_mk (w : World) (x : S25) {A0 : Option Addr} {c0 : Nat} (l0 : x.f0.length ≤ c0) (g0 : k33.C w A0 x.f0.length x.f0) {A1 : Option Addr} {c1 : Nat} (l1 : x.f1.length ≤ c1) (g1 : (Kd.int .i64).C w A1 x.f1.length x.f1) : k25.K w x [.slice A0 x.f0.length c0, .slice A1 x.f1.length c1] := ⟨[.slice A0 x.f0.length c0], [.slice A1 x.f1.length c1], rfl, ⟨A0, c0, rfl, l0, g0⟩, ⟨A1, c1, rfl, l1, g1⟩⟩
theorem k25_mkM (w : World) (base : Nat) (ok : Nat → Prop) (x : S25) {v0 : Value} (g0 : k33.R 33 w base ok v0 x.f0) {v1 : Value} (g1 : (Kd.int .i64).R 3 w base ok v1 x.f1) : k25.M w base ok x [v0, v1] := ⟨[v0], [v1], rfl, ⟨v0, rfl, g0⟩, ⟨v1, rfl, g1⟩⟩
def rd_T25 (xs : List S25) (i : Int) : S25 := xs.getD i.toNat z25
theorem at_T25 {w : World} {A : Option Addr} {n : Nat} {xs : List S25} (h : Kd.C k25 w A n xs) (i : Int) (h0 : 0 ≤ i) (h1 : i < n) : ∃ ad A0 c0 A1 c1, A = some ad ∧ w.cell? (ad.add (i.toNat * 2)) = some (.slice A0 (rd_T25 xs i).f0.length c0) ∧ w.cell? ⟨(ad.add (i.toNat * 2)).block, (ad.add (i.toNat * 2)).off + 1, none⟩ = some (.slice A1 (rd_T25 xs i).f1.length c1) ∧ (rd_T25 xs i).f0.length ≤ c0 ∧ k33.C w A0 (rd_T25 xs i).f0.length (rd_T25 xs i).f0 ∧ (rd_T25 xs i).f1.length ≤ c1 ∧ (Kd.int .i64).C w A1 (rd_T25 xs i).f1.length (rd_T25 xs i).f1 := by
 obtain ⟨ad, c, e, _, hK, hc0⟩ := Kd.C_get h z25 i h0 h1
 have hc : ∀ j u, c[j]? = some u → w.cell? (ad.add (i.toNat * 2 + j)) = some u := hc0
 obtain ⟨A0, c0, A1, c1, rfl, l0, g0, l1, g1⟩ := k25_open hK
 exact ⟨ad, A0, c0, A1, c1, e, hc 0 _ rfl, by rw [← add_field _ _ 1 (by omega)]; exact hc 1 _ rfl, l0, g0, l1, g1⟩
def rd_L6 (xs : List (List (List S33))) (i : Int) : (List (List S33)) := xs.getD i.toNat ([] : List (List S33))
theorem at_L6 {w : World} {A : Option Addr} {n : Nat} {xs : List (List (List S33))} (h : Kd.C (Kd.slice 22 (Kd.slice 33 k33)) w A n xs) (i : Int) (h0 : 0 ≤ i) (h1 : i < n) : ∃ ad A0 c0, A = some ad ∧ w.cell? (ad.add i.toNat) = some (.slice A0 (rd_L6 xs i).length c0) ∧ (rd_L6 xs i).length ≤ c0 ∧ (Kd.slice 33 k33).C w A0 (rd_L6 xs i).length (rd_L6 xs i) := by
 obtain ⟨ad, c, e, _, hK, hc0⟩ := Kd.C_get h ([] : List (List S33)) i h0 h1
 have hc : ∀ j u, c[j]? = some u → w.cell? (ad.add (i.toNat * 1 + j)) = some u := hc0
 obtain ⟨A0, c0, rfl, l0, g0⟩ := hK
 exact ⟨ad, A0, c0, e, by have hq := hc 0 _ rfl; rwa [Nat.mul_one, Nat.add_zero] at hq, l0, g0⟩
structure S64 where
 f0 : Int
 f1 : Int
def z64 : S64 := ⟨(0 : Int), (0 : Int)⟩
def k64 : Kd S64 := Kd.iso (Kd.pair (Kd.int .i64) (Kd.int .i64)) (fun x : S64 => (x.f0, x.f1))
theorem k64_open {w : World} {x : S64} {cs : List Value} (h : k64.K w x cs) : cs = [.int .i64 x.f0, .int .i64 x.f1] := by
 obtain ⟨_, _, rfl, rfl, rfl⟩ := h
 exact rfl
theorem k64_openM {w : World} {base : Nat} {ok : Nat → Prop} {x : S64} {cs : List Value} (h : k64.M w base ok x cs) : cs = [.int .i64 x.f0, .int .i64 x.f1] := by
 obtain ⟨_, _, rfl, rfl, rfl⟩ := h
 exact rfl
theorem k64_mk (w : World) (x : S64)  : k64.K w x [.int .i64 x.f0, .int .i64 x.f1] := ⟨[.int .i64 x.f0], [.int .i64 x.f1], rfl, rfl, rfl⟩
theorem k64_mkM (w : World) (base : Nat) (ok : Nat → Prop) (x : S64)  : k64.M w base ok x [.int .i64 x.f0, .int .i64 x.f1] := ⟨[.int .i64 x.f0], [.int .i64 x.f1], rfl, rfl, rfl⟩
def rd_T64 (xs : List S64) (i : Int) : S64 := xs.getD i.toNat z64
theorem at_T64 {w : World} {A : Option Addr} {n : Nat} {xs : List S64} (h : Kd.C k64 w A n xs) (i : Int) (h0 : 0 ≤ i) (h1 : i < n) : ∃ ad , A = some ad ∧ w.cell? (ad.add (i.toNat * 2)) = some (.int .i64 (rd_T64 xs i).f0) ∧ w.cell? ⟨(ad.add (i.toNat * 2)).block, (ad.add (i.toNat * 2)).off + 1, none⟩ = some (.int .i64 (rd_T64 xs i).f1) := by
 obtain ⟨ad, c, e, _, hK, hc0⟩ := Kd.C_get h z64 i h0 h1
 have hc : ∀ j u, c[j]? = some u → w.cell? (ad.add (i.toNat * 2 + j)) = some u := hc0
 obtain rfl := k64_open hK
 exact ⟨ad, e, hc 0 _ rfl, by rw [← add_field _ _ 1 (by omega)]; exact hc 1 _ rfl⟩
structure S52 where
 f0 : Int
 f1 : Int
def z52 : S52 := ⟨(0 : Int), (0 : Int)⟩
def k52 : Kd S52 := Kd.iso (Kd.pair (Kd.int .i64) (Kd.int .i64)) (fun x : S52 => (x.f0, x.f1))
theorem k52_open {w : World} {x : S52} {cs : List Value} (h : k52.K w x cs) : cs = [.int .i64 x.f0, .int .i64 x.f1] := by
 obtain ⟨_, _, rfl, rfl, rfl⟩ := h
 exact rfl
theorem k52_openM {w : World} {base : Nat} {ok : Nat → Prop} {x : S52} {cs : List Value} (h : k52.M w base ok x cs) : cs = [.int .i64 x.f0, .int .i64 x.f1] := by
 obtain ⟨_, _, rfl, rfl, rfl⟩ := h
 exact rfl
theorem k52_mk (w : World) (x : S52)  : k52.K w x [.int .i64 x.f0, .int .i64 x.f1] := ⟨[.int .i64 x.f0], [.int .i64 x.f1], rfl, rfl, rfl⟩
theorem k52_mkM (w : World) (base : Nat) (ok : Nat → Prop) (x : S52)  : k52.M w base ok x [.int .i64 x.f0, .int .i64 x.f1] := ⟨[.int .i64 x.f0], [.int .i64 x.f1], rfl, rfl, rfl⟩
def rd_T52 (xs : List S52) (i : Int) : S52 := xs.getD i.toNat z52
theorem at_T52 {w : World} {A : Option Addr} {n : Nat} {xs : List S52} (h : Kd.C k52 w A n xs) (i : Int) (h0 : 0 ≤ i) (h1 : i < n) : ∃ ad , A = some ad ∧ w.cell? (ad.add (i.toNat * 2)) = some (.int .i64 (rd_T52 xs i).f0) ∧ w.cell? ⟨(ad.add (i.toNat * 2)).block, (ad.add (i.toNat * 2)).off + 1, none⟩ = some (.int .i64 (rd_T52 xs i).f1) := by
 obtain ⟨ad, c, e, _, hK, hc0⟩ := Kd.C_get h z52 i h0 h1
 have hc : ∀ j u, c[j]? = some u → w.cell? (ad.add (i.toNat * 2 + j)) = some u := hc0
 obtain rfl := k52_open hK
 exact ⟨ad, e, hc 0 _ rfl, by rw [← add_field _ _ 1 (by omega)]; exact hc 1 _ rfl⟩
structure S101 where
 f0 : S52
 f1 : Bool
def z101 : S101 := ⟨z52, false⟩
def k101 : Kd S101 := Kd.iso (Kd.pair k52 Kd.bool) (fun x : S101 => (x.f0, x.f1))
theorem k101_open {w : World} {x : S101} {cs : List Value} (h : k101.K w x cs) : cs = [.int .i64 x.f0.f0, .int .i64 x.f0.f1, .bool x.f1] := by
 obtain ⟨_, _, rfl, s0, rfl⟩ := h
 obtain rfl := k52_open s0
 exact rfl
theorem k101_openM {w : World} {base : Nat} {ok : Nat → Prop} {x : S101} {cs : List Value} (h : k101.M w base ok x cs) : cs = [.int .i64 x.f0.f0, .int .i64 x.f0.f1, .bool x.f1] := by
 obtain ⟨_, _, rfl, s0, rfl⟩ := h
 obtain rfl := k52_openM s0
 exact rfl
theorem k101_mk (w : World) (x : S101)  : k101.K w x [.int .i64 x.f0.f0, .int .i64 x.f0.f1, .bool x.f1] := ⟨[.int .i64 x.f0.f0, .int .i64 x.f0.f1], [.bool x.f1], rfl, (k52_mk w x.f0 ), rfl⟩
theorem k101_mkM (w : World) (base : Nat) (ok : Nat → Prop) (x : S101)  : k101.M w base ok x [.int .i64 x.f0.f0, .int .i64 x.f0.f1, .bool x.f1] := ⟨[.int .i64 x.f0.f0, .int .i64 x.f0.f1], [.bool x.f1], rfl, (k52_mkM w base ok x.f0 ), rfl⟩
def rd_T101 (xs : List S101) (i : Int) : S101 := xs.getD i.toNat z101
theorem at_T101 {w : World} {A : Option Addr} {n : Nat} {xs : List S101} (h : Kd.C k101 w A n xs) (i : Int) (h0 : 0 ≤ i) (h1 : i < n) : ∃ ad , A = some ad ∧ w.cell? (ad.add (i.toNat * 3)) = some (.int .i64 (rd_T101 xs i).f0.f0) ∧ w.cell? ⟨(ad.add (i.toNat * 3)).block, (ad.add (i.toNat * 3)).off + 1, none⟩ = some (.int .i64 (rd_T101 xs i).f0.f1) ∧ w.cell? ⟨(ad.add (i.toNat * 3)).block, (ad.add (i.toNat * 3)).off + 2, none⟩ = some (.bool (rd_T101 xs i).f1) := by
 obtain ⟨ad, c, e, _, hK, hc0⟩ := Kd.C_get h z101 i h0 h1
 have hc : ∀ j u, c[j]? = some u → w.cell? (ad.add (i.toNat * 3 + j)) = some u := hc0
 obtain rfl := k101_open hK
 exact ⟨ad, e, hc 0 _ rfl, by rw [← add_field _ _ 1 (by omega)]; exact hc 1 _ rfl, by rw [← add_field _ _ 2 (by omega)]; exact hc 2 _ rfl⟩
def rd_L10 (xs : List (List S101)) (i : Int) : (List S101) := xs.getD i.toNat ([] : List S101)
theorem at_L10 {w : World} {A : Option Addr} {n : Nat} {xs : List (List S101)} (h : Kd.C (Kd.slice 101 k101) w A n xs) (i : Int) (h0 : 0 ≤ i) (h1 : i < n) : ∃ ad A0 c0, A = some ad ∧ w.cell? (ad.add i.toNat) = some (.slice A0 (rd_L10 xs i).length c0) ∧ (rd_L10 xs i).length ≤ c0 ∧ k101.C w A0 (rd_L10 xs i).length (rd_L10 xs i) := by
 obtain ⟨ad, c, e, _, hK, hc0⟩ := Kd.C_get h ([] : List S101) i h0 h1
 have hc : ∀ j u, c[j]? = some u → w.cell? (ad.add (i.toNat * 1 + j)) = some u := hc0
 obtain ⟨A0, c0, rfl, l0, g0⟩ := hK
 exact ⟨ad, A0, c0, e, by have hq := hc 0 _ rfl; rwa [Nat.mul_one, Nat.add_zero] at hq, l0, g0⟩
def rd_L11 (xs : List (List S52)) (i : Int) : (List S52) := xs.getD i.toNat ([] : List S52)
theorem at_L11 {w : World} {A : Option Addr} {n : Nat} {xs : List (List S52)} (h : Kd.C (Kd.slice 52 k52) w A n xs) (i : Int) (h0 : 0 ≤ i) (h1 : i < n) : ∃ ad A0 c0, A = some ad ∧ w.cell? (ad.add i.toNat) = some (.slice A0 (rd_L11 xs i).length c0) ∧ (rd_L11 xs i).length ≤ c0 ∧ k52.C w A0 (rd_L11 xs i).length (rd_L11 xs i) := by
 obtain ⟨ad, c, e, _, hK, hc0⟩ := Kd.C_get h ([] : List S52) i h0 h1
 have hc : ∀ j u, c[j]? = some u → w.cell? (ad.add (i.toNat * 1 + j)) = some u := hc0
 obtain ⟨A0, c0, rfl, l0, g0⟩ := hK
 exact ⟨ad, A0, c0, e, by have hq := hc 0 _ rfl; rwa [Nat.mul_one, Nat.add_zero] at hq, l0, g0⟩
def rd_L12 (xs : List (List Bool)) (i : Int) : (List Bool) := xs.getD i.toNat ([] : List Bool)
theorem at_L12 {w : World} {A : Option Addr} {n : Nat} {xs : List (List Bool)} (h : Kd.C (Kd.slice 4 Kd.bool) w A n xs) (i : Int) (h0 : 0 ≤ i) (h1 : i < n) : ∃ ad A0 c0, A = some ad ∧ w.cell? (ad.add i.toNat) = some (.slice A0 (rd_L12 xs i).length c0) ∧ (rd_L12 xs i).length ≤ c0 ∧ Kd.bool.C w A0 (rd_L12 xs i).length (rd_L12 xs i) := by
 obtain ⟨ad, c, e, _, hK, hc0⟩ := Kd.C_get h ([] : List Bool) i h0 h1
 have hc : ∀ j u, c[j]? = some u → w.cell? (ad.add (i.toNat * 1 + j)) = some u := hc0
 obtain ⟨A0, c0, rfl, l0, g0⟩ := hK
 exact ⟨ad, A0, c0, e, by have hq := hc 0 _ rfl; rwa [Nat.mul_one, Nat.add_zero] at hq, l0, g0⟩
def rd_L13 (xs : List (List (List S52))) (i : Int) : (List (List S52)) := xs.getD i.toNat ([] : List (List S52))
theorem at_L13 {w : World} {A : Option Addr} {n : Nat} {xs : List (List (List S52))} (h : Kd.C (Kd.slice 42 (Kd.slice 52 k52)) w A n xs) (i : Int) (h0 : 0 ≤ i) (h1 : i < n) : ∃ ad A0 c0, A = some ad ∧ w.cell? (ad.add i.toNat) = some (.slice A0 (rd_L13 xs i).length c0) ∧ (rd_L13 xs i).length ≤ c0 ∧ (Kd.slice 52 k52).C w A0 (rd_L13 xs i).length (rd_L13 xs i) := by
 obtain ⟨ad, c, e, _, hK, hc0⟩ := Kd.C_get h ([] : List (List S52)) i h0 h1
 have hc : ∀ j u, c[j]? = some u → w.cell? (ad.add (i.toNat * 1 + j)) = some u := hc0
 obtain ⟨A0, c0, rfl, l0, g0⟩ := hK
 exact ⟨ad, A0, c0, e, by have hq := hc 0 _ rfl; rwa [Nat.mul_one, Nat.add_zero] at hq, l0, g0⟩
structure S106 where
 f0 : S52
 f1 : Bool
def z106 : S106 := ⟨z52, false⟩
def k106 : Kd S106 := Kd.iso (Kd.pair k52 Kd.bool) (fun x : S106 => (x.f0, x.f1))
theorem k106_open {w : World} {x : S106} {cs : List Value} (h : k106.K w x cs) : cs = [.int .i64 x.f0.f0, .int .i64 x.f0.f1, .bool x.f1] := by
 obtain ⟨_, _, rfl, s0, rfl⟩ := h
 obtain rfl := k52_open s0
 exact rfl
theorem k106_openM {w : World} {base : Nat} {ok : Nat → Prop} {x : S106} {cs : List Value} (h : k106.M w base ok x cs) : cs = [.int .i64 x.f0.f0, .int .i64 x.f0.f1, .bool x.f1] := by
 obtain ⟨_, _, rfl, s0, rfl⟩ := h
 obtain rfl := k52_openM s0
 exact rfl
theorem k106_mk (w : World) (x : S106)  : k106.K w x [.int .i64 x.f0.f0, .int .i64 x.f0.f1, .bool x.f1] := ⟨[.int .i64 x.f0.f0, .int .i64 x.f0.f1], [.bool x.f1], rfl, (k52_mk w x.f0 ), rfl⟩
theorem k106_mkM (w : World) (base : Nat) (ok : Nat → Prop) (x : S106)  : k106.M w base ok x [.int .i64 x.f0.f0, .int .i64 x.f0.f1, .bool x.f1] := ⟨[.int .i64 x.f0.f0, .int .i64 x.f0.f1], [.bool x.f1], rfl, (k52_mkM w base ok x.f0 ), rfl⟩
def rd_T106 (xs : List S106) (i : Int) : S106 := xs.getD i.toNat z106
theorem at_T106 {w : World} {A : Option Addr} {n : Nat} {xs : List S106} (h : Kd.C k106 w A n xs) (i : Int) (h0 : 0 ≤ i) (h1 : i < n) : ∃ ad , A = some ad ∧ w.cell? (ad.add (i.toNat * 3)) = some (.int .i64 (rd_T106 xs i).f0.f0) ∧ w.cell? ⟨(ad.add (i.toNat * 3)).block, (ad.add (i.toNat * 3)).off + 1, none⟩ = some (.int .i64 (rd_T106 xs i).f0.f1) ∧ w.cell? ⟨(ad.add (i.toNat * 3)).block, (ad.add (i.toNat * 3)).off + 2, none⟩ = some (.bool (rd_T106 xs i).f1) := by
 obtain ⟨ad, c, e, _, hK, hc0⟩ := Kd.C_get h z106 i h0 h1
 have hc : ∀ j u, c[j]? = some u → w.cell? (ad.add (i.toNat * 3 + j)) = some u := hc0
 obtain rfl := k106_open hK
 exact ⟨ad, e, hc 0 _ rfl, by rw [← add_field _ _ 1 (by omega)]; exact hc 1 _ rfl, by rw [← add_field _ _ 2 (by omega)]; exact hc 2 _ rfl⟩
end Go.Proofs.Ytbmklpcheopgoaa.H

namespace Go.Proofs.Ytbmklpcheopgoaa.H
open Go.RowKit Go.Proofs.YtbmklpcheopgoaaW.PrintWords Go.Proofs.YtbmklpcheopgoaaW.PrintLast Go.Proofs.YtbmklpcheopgoaaW.PrintMore
attribute [local go_sem] max2_int min2_int max_two min_two max_three min_three max_four min_four
set_option linter.unusedVariables false
set_option linter.unusedSimpArgs false
theorem eqA33 (d : Nat) (w : World) (x0 y0 : Int) (x1 y1 : Int) (x2 y2 : Bool) :
  (Op.equalIn (d + 2) 33 (.agg #[.int .i64 x0, .int .i64 x1, .bool x2]) (.agg #[.int .i64 y0, .int .i64 y1, .bool y2])).run Try.prog w = .ok (x0 == y0 && (x1 == y1 && (x2 == y2))) w := by
 refine eqA_of Try.underlying33 (by kernel_rfl) ?_
 refine eqf_cons (by rfl) (by go_simp; rfl) (by go_simp; rfl) (by go_simp) ?_
 refine eqf_cons (by rfl) (by go_simp; rfl) (by go_simp; rfl) (by go_simp) ?_
 exact eqf_last (by rfl) (by go_simp; rfl) (by go_simp; rfl) (by go_simp)
end Go.Proofs.Ytbmklpcheopgoaa.H

namespace Go.Proofs.Ytbmklpcheopgoaa.H
open Go.RowKit Go.Proofs.YtbmklpcheopgoaaW.PrintWords Go.Proofs.YtbmklpcheopgoaaW.PrintLast Go.Proofs.YtbmklpcheopgoaaW.PrintMore
attribute [local go_sem] max2_int min2_int max_two min_two max_three min_three max_four min_four
set_option linter.unusedVariables false
set_option linter.unusedSimpArgs false
def fleuronref03_Big.f (l0_0 : List (S33)) (l0_1 : List Int) : Option (Bool) := if (l0_0.length : Int) > 1500 then (some true) else (some (decide ((l0_1.length : Int) > 300)))
set_option maxHeartbeats 8000000 in
set_option maxRecDepth 100000 in
theorem fleuronref03_Big.calls (A0_0 : Option Addr) (c0_0 : Nat) (l0_0 : List (S33)) (A0_1 : Option Addr) (c0_1 : Nat) (l0_1 : List Int) (r : Bool) (w : World) (hr0_0 : Kd.C k33 w A0_0 l0_0.length l0_0) (hc0_0 : l0_0.length ≤ c0_0) (hr0_1 : Kd.C (Kd.int .i64) w A0_1 l0_1.length l0_1) (hc0_1 : l0_1.length ≤ c0_1) (h : fleuronref03_Big.f l0_0 l0_1 = some r) :
  Calls Try.prog 15 #[.agg #[.slice A0_0 l0_0.length c0_0, .slice A0_1 l0_1.length c0_1]] w fun e w' => e = .returned (.bool r) ∧ Below w.heap.size w w' := by
 have hu25 := Try.underlying25
 have HR0_0 := aM hr0_0
 have HC0_0 := aM hc0_0
 clear hr0_0 hc0_0
 have HR0_1 := aM hr0_1
 have HC0_1 := aM hc0_1
 clear hr0_1 hc0_1
 have HB := aM (Below.refl w.heap.size w)
 have H : (if (l0_0.length : Int) > 1500 then (some true) else (some (decide ((l0_1.length : Int) > 300)))) = some r := h
 clear h
 by_cases c2 : (l0_0.length : Int) > 1500
 ·
  rw [if_pos c2] at H
  have c2b0 : decide (1500 < (l0_0.length : Int)) = true := decide_eq_true c2
  have c2b1 : decide (1500 < l0_0.length) = true := decide_eq_true (by omega)
  clear c2
  obtain rfl := Option.some.inj H
  go_enter Try.func15, Try.ntmps15
  go_wp2_with (first | ((with_reducible refine gate_dst (N := 1) rfl ?_); (try (refine gate_guard (by rfl) ?_; dsimp only)); refine box_event ?hg (N := 1) ?hd (cs := #[.slice A0_0 l0_0.length c0_0, .slice A0_1 l0_1.length c0_1]) (t := 25) ?hr ?_; (case hd => rfl); (case hg => rfl); (case hr => first | (go_simp; done) | (go_simp; rfl)); intro gb101 hg w3 hbox hb; have n0_ := aM (below_step (by repeat (first | (with_reducible first | exact HB.out | apply bA | apply bN | apply bD) | exact HB.out)) hb); have n1_ := aM (hbox); have n2_ := aM ((by rw [hg]; exact (below_size (by repeat (first | (with_reducible first | exact HB.out | apply bA | apply bN | apply bD) | exact HB.out))) : w.heap.size ≤ gb101)); have n3_ := aM ((by rw [hg]; exact (below_size (by repeat (first | (with_reducible first | exact HB.out | apply bA | apply bN | apply bD) | exact HB.out))) : w.heap.size ≤ gb101)); clear HB; have HB := n0_; have BK101 := n1_; have GW101 := n2_; have GE101 := n3_; clear n0_ n1_ n2_ n3_; clear hb hbox hg; have hcz4_0 : w3.cell? ⟨gb101, 0, none⟩ = some (.slice A0_0 l0_0.length c0_0) := (blk_cell BK101.out 0).trans rfl; have hcz4_1 : w3.cell? ⟨gb101, 1, none⟩ = some (.slice A0_1 l0_1.length c0_1) := (blk_cell BK101.out 1).trans rfl; have hfz4_0 := blk_frozen BK101.out 0; have hfz4_1 := blk_frozen BK101.out 1))
  go_ret
  exact ⟨by first | rfl | (simp [errW_none, errW_some] <;> rfl) | (simp [*, errW_none, errW_some] <;> rfl), by repeat (first | (with_reducible first | exact HB.out | apply bA | apply bN | apply bD | refine bS ?_ GE101.out) | exact HB.out)⟩
 ·
  rw [if_neg c2] at H
  have c2b0 : decide (1500 < (l0_0.length : Int)) = false := decide_eq_false c2
  have c2b1 : decide (1500 < l0_0.length) = false := decide_eq_false (by omega)
  clear c2
  obtain rfl := Option.some.inj H
  go_enter Try.func15, Try.ntmps15
  go_wp2_with (first | ((with_reducible refine gate_dst (N := 1) rfl ?_); (try (refine gate_guard (by rfl) ?_; dsimp only)); refine box_event ?hg (N := 1) ?hd (cs := #[.slice A0_0 l0_0.length c0_0, .slice A0_1 l0_1.length c0_1]) (t := 25) ?hr ?_; (case hd => rfl); (case hg => rfl); (case hr => first | (go_simp; done) | (go_simp; rfl)); intro gb101 hg w5 hbox hb; have n0_ := aM (below_step (by repeat (first | (with_reducible first | exact HB.out | apply bA | apply bN | apply bD) | exact HB.out)) hb); have n1_ := aM (hbox); have n2_ := aM ((by rw [hg]; exact (below_size (by repeat (first | (with_reducible first | exact HB.out | apply bA | apply bN | apply bD) | exact HB.out))) : w.heap.size ≤ gb101)); have n3_ := aM ((by rw [hg]; exact (below_size (by repeat (first | (with_reducible first | exact HB.out | apply bA | apply bN | apply bD) | exact HB.out))) : w.heap.size ≤ gb101)); clear HB; have HB := n0_; have BK101 := n1_; have GW101 := n2_; have GE101 := n3_; clear n0_ n1_ n2_ n3_; clear hb hbox hg; have hcz6_0 : w5.cell? ⟨gb101, 0, none⟩ = some (.slice A0_0 l0_0.length c0_0) := (blk_cell BK101.out 0).trans rfl; have hcz6_1 : w5.cell? ⟨gb101, 1, none⟩ = some (.slice A0_1 l0_1.length c0_1) := (blk_cell BK101.out 1).trans rfl; have hfz6_0 := blk_frozen BK101.out 0; have hfz6_1 := blk_frozen BK101.out 1))
  go_ret
  exact ⟨by first | rfl | (simp [errW_none, errW_some] <;> rfl) | (simp [*, errW_none, errW_some] <;> rfl), by repeat (first | (with_reducible first | exact HB.out | apply bA | apply bN | apply bD | refine bS ?_ GE101.out) | exact HB.out)⟩
-- NOT PRINTED: function 41 (outline_Contours)
end Go.Proofs.Ytbmklpcheopgoaa.H

namespace Go.Proofs.YtbmklpcheopgoaaIt
open Go Go.RowKit

/-- From W to W' nothing has changed but blocks of S and new ones. -/
structure Chg (S : Nat → Prop) (W W' : World) : Prop where
  os : W'.os = W.os
  tape : W'.tape = W.tape
  output : W'.output = W.output
  size : W.heap.size ≤ W'.heap.size
  block : ∀ b, b < W.heap.size → ¬ S b → W'.heap[b]? = W.heap[b]?

theorem Chg.refl (S : Nat → Prop) (W : World) : Chg S W W := ⟨rfl, rfl, rfl, Nat.le_refl _, fun _ _ _ => rfl⟩
theorem Chg.trans {S : Nat → Prop} {a b c : World} (h : Chg S a b) (k : Chg S b c) : Chg S a c :=
  ⟨k.os.trans h.os, k.tape.trans h.tape, k.output.trans h.output, Nat.le_trans h.size k.size, fun i hi hn => (k.block i (Nat.lt_of_lt_of_le hi h.size) hn).trans (h.block i hi hn)⟩
theorem Chg.mono {S T : Nat → Prop} {a b : World} (h : Chg S a b) (hST : ∀ i, i < a.heap.size → S i → T i) : Chg T a b := ⟨h.os, h.tape, h.output, h.size, fun i hi hn => h.block i hi (fun hs => hn (hST i hi hs))⟩
theorem Chg.below {S : Nat → Prop} {a b : World} (h : Chg S a b) {B : Nat} (hB : B ≤ a.heap.size) (hS : ∀ i, i < B → ¬ S i) : Below B a b := ⟨h.os, h.tape, h.output, h.size, fun k hk => h.block k (by omega) (hS k hk)⟩
theorem Chg.of_below {B : Nat} {a b : World} (h : Below B a b) : Chg (fun i => B ≤ i) a b := ⟨h.os, h.tape, h.output, h.size, fun k _ hn => h.block k (by omega)⟩
theorem Chg.of_fresh {S : Nat → Prop} {a b : World} (h : Below a.heap.size a b) : Chg S a b := ⟨h.os, h.tape, h.output, h.size, fun k hk _ => h.block k hk⟩
theorem Chg.of_grownBy {a b : World} {row : Option Nat} (h : a.grownBy b row) : Chg (fun i => row = some i) a b := ⟨h.os, h.tape, h.output, h.size, fun k hk hn => h.block k hk (fun e => hn e.symm)⟩
theorem Chg.drew {S : Nat → Prop} {a b : World} (h : Chg S a b) : Chg S a b.drew := ⟨h.os, h.tape, h.output, h.size, h.block⟩
theorem Chg.drewN {S : Nat → Prop} {a b : World} (h : Chg S a b) (n : Nat) : Chg S a (b.drewN n) := ⟨h.os, h.tape, h.output, h.size, h.block⟩
theorem Chg.alloc {S : Nat → Prop} {a b : World} (h : Chg S a b) (o : Obj) : Chg S a (b.alloc o) :=
  h.trans ⟨rfl, rfl, rfl, by simp, fun k hk _ => Below.heap_alloc _ _ _ hk⟩
theorem Chg.setCell {S : Nat → Prop} {a b : World} (h : Chg S a b) {p : Addr} (hp : p.block < a.heap.size → S p.block) (u : Value) : Chg S a (b.setCell p u) :=
  ⟨h.os, h.tape, h.output, by have := h.size; simpa [World.setCell] using this, fun k hk hn => (Below.heap_setCell _ _ _ _ (fun e => by subst e; exact hn (hp hk))).trans (h.block k hk hn)⟩
theorem Chg.putObj {S : Nat → Prop} {a b : World} (h : Chg S a b) {r : Nat} (hp : r < a.heap.size → S r) (o : Obj) : Chg S a (b.putObj r o) :=
  ⟨h.os, h.tape, h.output, by have := h.size; simpa using this, fun k hk hn => (World.putObj_heap_other (fun e => by subst e; exact hn (hp hk))).trans (h.block k hk hn)⟩
theorem Chg.lt {S : Nat → Prop} {a b : World} (h : Chg S a b) {i : Nat} (hi : i < a.heap.size) : i < b.heap.size := Nat.lt_of_lt_of_le hi h.size
theorem Chg.cell {S : Nat → Prop} {a b : World} (h : Chg S a b) {p : Addr} (hi : p.block < a.heap.size) (hn : ¬ S p.block) : b.cell? p = a.cell? p := World.cell?_of_block (w := a) (h.block _ hi hn)
theorem Chg.heap {S : Nat → Prop} {a b : World} (h : Chg S a b) {i : Nat} {o : Obj} (hi : a.heap[i]? = some o) (hn : ¬ S i) : b.heap[i]? = some o := (h.block i (Array.getElem?_eq_some_iff.1 hi).1 hn).trans hi
theorem Chg.putSelf (W : World) (r : Nat) (o : Obj) : Chg (fun i => i = r) W (W.putObj r o) := Chg.putObj (S := fun i => i = r) (Chg.refl _ _) (fun _ => rfl) o

/-- What is owned grows by new blocks alone. -/
def Grow (own own' : Nat → Prop) (W : World) : Prop := (∀ b, own b → own' b) ∧ ∀ b, own' b → own b ∨ W.heap.size ≤ b
theorem Grow.refl (own : Nat → Prop) (W : World) : Grow own own W := ⟨fun _ h => h, fun _ h => .inl h⟩
theorem Grow.trans {o1 o2 o3 : Nat → Prop} {W W' : World} (h : Grow o1 o2 W) (k : Grow o2 o3 W') (hs : W.heap.size ≤ W'.heap.size) : Grow o1 o3 W :=
  ⟨fun b hb => k.1 b (h.1 b hb), fun b hb => by
    rcases k.2 b hb with h3 | h3
    · exact h.2 b h3
    · exact .inr (Nat.le_trans hs h3)⟩
theorem Chg.grow {o1 o2 : Nat → Prop} {W W' W'' : World} (h : Chg o1 W W') (hg : Grow o1 o2 W) (k : Chg o2 W' W'') : Chg o1 W W'' :=
  ⟨k.os.trans h.os, k.tape.trans h.tape, k.output.trans h.output, Nat.le_trans h.size k.size, fun i hi hn => (k.block i (Nat.lt_of_lt_of_le hi h.size) (fun h2 => by
    rcases hg.2 i h2 with h3 | h3
    · exact hn h3
    · omega)).trans (h.block i hi hn)⟩

/-- .. but for what is handed over. -/
def GrowG (G own own' : Nat → Prop) (W : World) : Prop := (∀ b, own b → own' b) ∧ ∀ b, own' b → own b ∨ W.heap.size ≤ b ∨ G b
theorem GrowG.of {G own own' : Nat → Prop} {W : World} (h : Grow own own' W) : GrowG G own own' W := ⟨h.1, fun b hb => (h.2 b hb).elim .inl (fun x => .inr (.inl x))⟩
theorem GrowG.refl (G own : Nat → Prop) (W : World) : GrowG G own own W := ⟨fun _ h => h, fun _ h => .inl h⟩
theorem GrowG.take (G own : Nat → Prop) (W : World) : GrowG G own (fun b => own b ∨ G b) W := ⟨fun _ h => .inl h, fun _ h => h.elim .inl (fun x => .inr (.inr x))⟩
theorem GrowG.grow {own own' : Nat → Prop} {W : World} (h : GrowG (fun _ => False) own own' W) : Grow own own' W := ⟨h.1, fun b hb => by
  rcases h.2 b hb with h | h | h
  · exact .inl h
  · exact .inr h
  · exact h.elim⟩
theorem GrowG.trans {G o1 o2 o3 : Nat → Prop} {W W' : World} (h : GrowG G o1 o2 W) (k : Grow o2 o3 W') (hs : W.heap.size ≤ W'.heap.size) : GrowG G o1 o3 W :=
  ⟨fun b hb => k.1 b (h.1 b hb), fun b hb => by
    rcases k.2 b hb with h3 | h3
    · exact h.2 b h3
    · exact .inr (.inl (Nat.le_trans hs h3))⟩

/-- What is said of the caller's state abides whatever happens to blocks from B on that it doesn't own. -/
def Stable (B : Nat) (J : Nat → (Nat → Prop) → World → Prop) : Prop := ∀ k own W W', J k own W → Chg (fun b => B ≤ b ∧ ¬ own b) W W' → J k own W'
theorem Stable.up {B B' : Nat} {J : Nat → (Nat → Prop) → World → Prop} (h : Stable B J) (hB : B ≤ B') : Stable B' J := fun k own W W' hj hc => h k own W W' hj (hc.mono fun _ _ hs => ⟨Nat.le_trans hB hs.1, hs.2⟩)
theorem Stable.and {B : Nat} {J K : Nat → (Nat → Prop) → World → Prop} (h : Stable B J) (h' : Stable B K) : Stable B (fun k own W => J k own W ∧ K k own W) := fun k own W W' hj hc => ⟨h k own W W' hj.1 hc, h' k own W W' hj.2 hc⟩
theorem Stable.pure {B : Nat} (J : Nat → (Nat → Prop) → Prop) : Stable B (fun k own _ => J k own) := fun _ _ _ _ h _ => h
theorem Stable.false {B : Nat} : Stable B (fun _ _ _ => False) := fun _ _ _ _ h _ => h
theorem Stable.below {B n₀ : Nat} (w : World) (h : n₀ ≤ B) (hw : n₀ ≤ w.heap.size) : Stable B (fun _ _ W => Below n₀ w W) := fun _ _ W W' hj hc => hj.trans (hc.below (Nat.le_trans hw hj.size) (fun i hi hs => by omega))
theorem Stable.chg {B : Nat} (S : Nat → Prop) (w : World) (h : w.heap.size ≤ B) : Stable B (fun _ _ W => Chg S w W) := fun _ _ W W' hj hc => ⟨hc.os.trans hj.os, hc.tape.trans hj.tape, hc.output.trans hj.output, Nat.le_trans hj.size hc.size, fun i hi hn => (hc.block i (hj.lt hi) (fun hs => by omega)).trans (hj.block i hi hn)⟩

/-- An iterator value: called with a loop's yield, it makes N rounds at most, the k-th with arguments of which El k tells, and which hand over the blocks of Gv; Rd: the blocks that it reads, which the caller doesn't own. -/
def ItC (P : Program) (g : Nat) (lb : Array Value) (N : Nat) (El : Nat → World → Array Value → Prop) (Gv : Array Value → Nat → Prop) (Rd : Nat → Prop) (w : World) : Prop :=
  ∀ (l : Nat) (J Jx : Nat → (Nat → Prop) → World → Prop) (own0 : Nat → Prop) (W : World), Below w.heap.size w W → w.heap.size ≤ l → l < W.heap.size → Stable W.heap.size J → Stable W.heap.size Jx → (∀ b, own0 b → b < W.heap.size ∧ ¬ Rd b) →
    (∀ k own W1 args, k < N → J k own W1 → W.heap.size ≤ W1.heap.size → (∀ b, own b → b < W1.heap.size) → El k W1 args → (∀ b, Gv args b → W.heap.size ≤ b ∧ ¬ own b) → ∀ n, YieldAt Fence.wide n P l args W1 fun e W' =>
      ∃ own', GrowG (Gv args) own own' W1 ∧ (∀ b, own' b → b < W'.heap.size) ∧ Chg (fun b => own b ∨ b = l ∨ Gv args b) W1 W' ∧ ((e = .returned (.bool true) ∧ J (k + 1) own' W') ∨ (e = .returned (.bool false) ∧ Jx (k + 1) own' W'))) →
    J 0 own0 W →
    Calls P g (#[.func (.yield l) #[] #[]] ++ lb) W fun e W' => (∃ v, e = .returned v) ∧ ∃ own', (∀ b, own' b → b < W'.heap.size) ∧ (J N own' W' ∨ ∃ k, k ≤ N ∧ Jx k own' W')

theorem ItC.later {P : Program} {g : Nat} {lb : Array Value} {N : Nat} {El : Nat → World → Array Value → Prop} {Gv : Array Value → Nat → Prop} {Rd : Nat → Prop} {w w' : World} (h : ItC P g lb N El Gv Rd w) (hb : Below w.heap.size w w') : ItC P g lb N El Gv Rd w' :=
  fun l J Jx own0 W hW hl => h l J Jx own0 W (hb.trans (hW.mono hb.size)) (Nat.le_trans hb.size hl)

/-- Where an iterator stands between two rounds: since its call began nothing has changed but what the caller owns, the loop's record, and the iterator's own (P). -/
structure Since (l : Nat) (own0 : Nat → Prop) (W : World) (own : Nat → Prop) (P : Nat → Prop) (wr : World) : Prop where
  chg : Chg (fun b => own b ∨ b = l ∨ P b) W wr
  old : ∀ b, b < W.heap.size → own b → own0 b
  lt : ∀ b, own b → b < wr.heap.size
theorem Since.start {l : Nat} {own0 : Nat → Prop} {W : World} {P : Nat → Prop} (h : ∀ b, own0 b → b < W.heap.size) : Since l own0 W own0 P W := ⟨Chg.refl _ _, fun _ _ h => h, h⟩
theorem Since.next {l : Nat} {own0 own own' G : Nat → Prop} {W wr wr' : World} {P : Nat → Prop} (h : Since l own0 W own P wr) (hg : GrowG G own own' wr) (ho : ∀ b, own' b → b < wr'.heap.size) (hc : Chg (fun b => own b ∨ b = l ∨ G b) wr wr') (hG : ∀ b, G b → W.heap.size ≤ b) : Since l own0 W own' P wr' :=
  ⟨⟨hc.os.trans h.chg.os, hc.tape.trans h.chg.tape, hc.output.trans h.chg.output, Nat.le_trans h.chg.size hc.size, fun b hb hn => (hc.block b (h.chg.lt hb) (fun hs => by
      rcases hs with x | x | x
      · exact hn (.inl (hg.1 _ x))
      · exact hn (.inr (.inl x))
      · have := hG b x; omega)).trans (h.chg.block b hb (fun hs => hn (hs.elim (fun x => .inl (hg.1 _ x)) .inr)))⟩, fun b hb hb' => h.old b hb (by
      rcases hg.2 b hb' with x | x | x
      · exact x
      · have := h.chg.size; omega
      · have := hG b x; omega), ho⟩
theorem Since.own {l : Nat} {own0 own : Nat → Prop} {W wr wr' : World} {P : Nat → Prop} (h : Since l own0 W own P wr) (hc : Chg P wr wr') : Since l own0 W own P wr' :=
  ⟨h.chg.trans (hc.mono (fun _ _ hs => .inr (.inr hs))), h.old, fun b hb => hc.lt (h.lt b hb)⟩
/-- What the iterator reads is as it was where its value was made. -/
theorem Since.reads {l : Nat} {own0 own : Nat → Prop} {w W wr : World} {P Rd : Nat → Prop} (h : Since l own0 W own P wr) (hW : Below w.heap.size w W) (hl : w.heap.size ≤ l) (hown : ∀ b, own0 b → b < W.heap.size ∧ ¬ Rd b) (hP : ∀ b, b < w.heap.size → ¬ P b) : Chg (fun b => ¬ Rd b) w wr :=
  ⟨h.chg.os.trans hW.os, h.chg.tape.trans hW.tape, h.chg.output.trans hW.output, Nat.le_trans hW.size h.chg.size, fun b hb hn => (h.chg.block b (Nat.lt_of_lt_of_le hb hW.size) (fun hs => by
    rcases hs with hs | hs | hs
    · exact hn (fun hr => (hown b (h.old b (Nat.lt_of_lt_of_le hb hW.size) hs)).2 hr)
    · omega
    · exact hP b hb hs)).trans (hW.block b hb)⟩

/-- What a round's body ends in. -/
def roundQ (I : Nat → (Nat → Prop) → World → Prop) (Ix : Code → Nat → (Nat → Prop) → World → Prop) (k : Nat) (own : Nat → Prop) (W : World) : Exit → Act → World → Prop
  | .normal, _, W' => ∃ own', Grow own own' W ∧ (∀ b, own' b → b < W'.heap.size) ∧ Chg own W W' ∧ I (k + 1) own' W'
  | .ret, _, W' => ∃ own', Grow own own' W ∧ (∀ b, own' b → b < W'.heap.size) ∧ Chg own W W' ∧ Ix .ret (k + 1) own' W'
  | .exit id, _, W' => ∃ own', Grow own own' W ∧ (∀ b, own' b → b < W'.heap.size) ∧ Chg own W W' ∧ Ix (.exit id) (k + 1) own' W'
  | .goto t, _, W' => ∃ own', Grow own own' W ∧ (∀ b, own' b → b < W'.heap.size) ∧ Chg own W W' ∧ Ix (.goto t) (k + 1) own' W'
  | .panic _, _, _ => False
  | .outgrown, _, _ => False

theorem round_law {P : Program} {ps : Array Tmp} {assign body : Code} {fn : FuncId} {tmps : Array Value} {D : Nat} (B l : Nat) (rec : LoopState → Option Code → Loop)
    (hrec : rec = fun st pe => { state := st, pending := pe, fn := fn, tmps := tmps, params := ps, assign := assign, body := body, defers := D })
    (I : Nat → (Nat → Prop) → World → Prop) (Ix : Code → Nat → (Nat → Prop) → World → Prop) (hI : Stable B I) (hIx : ∀ c, Stable B (Ix c)) (N : Nat) (El : Nat → World → Array Value → Prop) (Gv : Array Value → Nat → Prop)
    (hps : ∀ k W args, El k W args → args.size = ps.size) (hBl : B ≤ l)
    (Ax : Nat → (Nat → Prop) → Act → World → Prop) (hAx : ∀ k own a' W o o', Ax k own a' W → W.heap[l]? = some o → o.isCells = false → Ax k own a' (W.putObj l o'))
    (hassign : ∀ n k own args W, I k own W → (∀ b, own b → b < W.heap.size) → l < W.heap.size → ¬ own l → k < N → El k W args → (∀ b, Gv args b → ¬ own b) →
      assign.wpIn (Fence.wide.inRound l) n P (Exit.then (fun a' W' => ∃ own', GrowG (Gv args) own own' W ∧ (∀ b, own' b → b < W'.heap.size) ∧ Chg own W W' ∧ I k own' W' ∧ Ax k own' a' W') (fun _ _ _ => False))
        { tmps := (ps.zip args).foldl (fun t (p, v) => t.setIfInBounds p v) tmps, defers := [] } W)
    (hbody : ∀ n k own a' W, I k own W → (∀ b, own b → b < W.heap.size) → (∃ r, W.heap[l]? = some (.loop r)) → ¬ own l → k < N → Ax k own a' W → body.wpIn (Fence.wide.inRound l) n P (roundQ I Ix k own W) a' W)
    (k : Nat) (own : Nat → Prop) (W : World) (args : Array Value) (hk : k < N) (hi : I k own W) (how : ∀ b, own b → b < W.heap.size) (hl : W.heap[l]? = some (.loop (rec .ready none))) (hnl : ¬ own l) (hel : El k W args) (hGl : ∀ b, Gv args b → b ≠ l ∧ ¬ own b) (n : Nat) :
    YieldAt Fence.wide n P l args W fun e W' => ∃ own', GrowG (Gv args) own own' W ∧ (∀ b, own' b → b < W'.heap.size) ∧ Chg (fun b => own b ∨ b = l ∨ Gv args b) W W' ∧ ¬ own' l ∧
      ((e = .returned (.bool true) ∧ I (k + 1) own' W' ∧ W'.heap[l]? = some (.loop (rec .ready none))) ∨ (e = .returned (.bool false) ∧ ∃ c, Ix c (k + 1) own' W' ∧ W'.heap[l]? = some (.loop (rec .done (some c))))) := by
  have hlt : l < W.heap.size := (Array.getElem?_eq_some_iff.1 hl).1
  have hy := run_yield (P := P) (args := args) hl (by rw [hrec]; exact hps _ _ _ hel)
  rw [hrec] at hy
  refine ⟨fn, _, assign, body, hy, roundIn_of_wpIn (F := Fence.wide) trivial (wpIn_mono (hassign n k own args W hi how hlt hnl hk hel (fun b hb => (hGl b hb).2)) ?_)⟩
  clear hy
  rintro e a' W' hq
  cases e with
  | normal =>
    obtain ⟨o1, hg1, ho1, hc1, hi1, hax⟩ := hq
    have hn1 : ¬ o1 l := fun h => by
      rcases hg1.2 l h with h | h | h
      · exact hnl h
      · omega
      · exact (hGl _ h).1 rfl
    have hl1 : W'.heap[l]? = some (.loop (rec .ready none)) := hc1.heap hl hnl
    have hlt1 : l < W'.heap.size := hc1.lt hlt
    refine ⟨_, run_beginRound hl1 (by rw [hrec]), ?_⟩
    have hl2 : (W'.putObj l (.loop { rec .ready none with state := .busy })).heap[l]? = some (.loop { rec .ready none with state := .busy }) := World.putObj_heap_same hlt1
    have hc2 : Chg (fun b => B ≤ b ∧ ¬ o1 b) W' (W'.putObj l (.loop { rec .ready none with state := .busy })) := (Chg.refl _ _).putObj (fun _ => ⟨hBl, hn1⟩) _
    refine wpIn_mono (hbody n k o1 a' _ (hI _ _ _ _ hi1 hc2) (fun b hb => by rw [World.putObj_size]; exact ho1 b hb) ⟨_, hl2⟩ hn1 hk (hAx _ _ _ _ _ _ hax hl1 rfl)) ?_
    have fin : ∀ (jump : Option Code) (o3 : Nat → Prop) (W3 : World), Grow o1 o3 (W'.putObj l (.loop { rec .ready none with state := .busy })) → (∀ b, o3 b → b < W3.heap.size) → Chg o1 (W'.putObj l (.loop { rec .ready none with state := .busy })) W3 →
        ∃ W4, W4 = W3.putObj l (.loop (rec (if jump.isNone then .ready else .done) jump)) ∧ (Instr.endRound l jump).run P W3 = .ok (.bool jump.isNone) W4 ∧ W4.heap[l]? = some (.loop (rec (if jump.isNone then .ready else .done) jump)) ∧
          GrowG (Gv args) own o3 W ∧ (∀ b, o3 b → b < W4.heap.size) ∧ Chg (fun b => own b ∨ b = l ∨ Gv args b) W W4 ∧ ¬ o3 l ∧ Chg (fun b => B ≤ b ∧ ¬ o3 b) W3 W4 := by
      intro jump o3 W3 hg3 ho3 hc3
      have hl3 := hc3.heap hl2 hn1
      have hlt3 : l < W3.heap.size := (Array.getElem?_eq_some_iff.1 hl3).1
      have hn3 : ¬ o3 l := fun h => by
        rcases hg3.2 l h with h | h
        · exact hn1 h
        · rw [World.putObj_size] at h; omega
      refine ⟨_, rfl, ?_, World.putObj_heap_same hlt3, hg1.trans hg3 (by rw [World.putObj_size]; exact hc1.size), fun b hb => by rw [World.putObj_size]; exact ho3 b hb, ?_, hn3, (Chg.refl _ _).putObj (fun _ => ⟨hBl, hn3⟩) _⟩
      · have := run_endRound (P := P) jump hl3
        rw [hrec] at this ⊢
        exact this
      · have e1 : Chg (fun b => own b ∨ b = l ∨ Gv args b) W (W'.putObj l (.loop { rec .ready none with state := .busy })) := (hc1.mono (fun _ _ h => .inl h)).putObj (fun _ => .inr (.inl rfl)) _
        have e2 : Chg (fun b => own b ∨ b = l ∨ Gv args b) W W3 := by
          refine ⟨hc3.os.trans e1.os, hc3.tape.trans e1.tape, hc3.output.trans e1.output, Nat.le_trans e1.size hc3.size, fun i hi hn => (hc3.block i (e1.lt hi) (fun h2 => ?_)).trans (e1.block i hi hn)⟩
          rcases hg1.2 i h2 with h3 | h3 | h3
          · exact hn (.inl h3)
          · omega
          · exact hn (.inr (.inr h3))
        exact e2.putObj (fun _ => .inr (.inl rfl)) _
    rintro e a3 W3 hp
    cases e with
    | normal =>
      obtain ⟨o3, hg3, ho3, hc3, hi3⟩ := hp
      obtain ⟨W4, rfl, hr, hl4, hg4, ho4, hc4, hn4, hs4⟩ := fin none o3 W3 hg3 ho3 hc3
      exact ⟨_, _, hr, o3, hg4, ho4, hc4, hn4, .inl ⟨rfl, hI _ _ _ _ hi3 hs4, hl4⟩⟩
    | ret =>
      obtain ⟨o3, hg3, ho3, hc3, hi3⟩ := hp
      obtain ⟨W4, rfl, hr, hl4, hg4, ho4, hc4, hn4, hs4⟩ := fin (some .ret) o3 W3 hg3 ho3 hc3
      exact ⟨_, _, hr, o3, hg4, ho4, hc4, hn4, .inr ⟨rfl, .ret, hIx _ _ _ _ _ hi3 hs4, hl4⟩⟩
    | exit id =>
      obtain ⟨o3, hg3, ho3, hc3, hi3⟩ := hp
      obtain ⟨W4, rfl, hr, hl4, hg4, ho4, hc4, hn4, hs4⟩ := fin (some (.exit id)) o3 W3 hg3 ho3 hc3
      exact ⟨_, _, hr, o3, hg4, ho4, hc4, hn4, .inr ⟨rfl, .exit id, hIx _ _ _ _ _ hi3 hs4, hl4⟩⟩
    | goto t =>
      obtain ⟨o3, hg3, ho3, hc3, hi3⟩ := hp
      obtain ⟨W4, rfl, hr, hl4, hg4, ho4, hc4, hn4, hs4⟩ := fin (some (.goto t)) o3 W3 hg3 ho3 hc3
      exact ⟨_, _, hr, o3, hg4, ho4, hc4, hn4, .inr ⟨rfl, .goto t, hIx _ _ _ _ _ hi3 hs4, hl4⟩⟩
    | panic ch => exact hp.elim
    | outgrown => exact hp.elim
  | exit id => exact hq.elim
  | goto t => exact hq.elim
  | ret => exact hq.elim
  | panic ch => exact hq.elim
  | outgrown => exact hq.elim

/-- The law, at a loop that lies in no round. -/
theorem range_outer {P : Program} {n : Nat} {g : Operand} {ps : Array Tmp} {assign body : Code} {Q : Exit → Act → World → Prop} {a : Act} {w : World} {gf : Nat} {lb : Array Value} {N : Nat} {El : Nat → World → Array Value → Prop} {Gv : Array Value → Nat → Prop} {Rd : Nat → Prop}
    (hit : ItC P gf lb N El Gv Rd w) (hg : a.eval g = .func (.func gf) #[] lb) (eg : ∀ args w, (callFunc gf args).run P w = .ok (.enter gf args) w)
    (I : Nat → (Nat → Prop) → World → Prop) (Ix : Code → Nat → (Nat → Prop) → World → Prop) (own0 : Nat → Prop) (hI : Stable w.heap.size I) (hIx : ∀ c, Stable w.heap.size (Ix c))
    (hps : ∀ k W args, El k W args → args.size = ps.size) (how0 : ∀ b, own0 b → b < w.heap.size ∧ ¬ Rd b) (h0 : I 0 own0 w)
    (Ax : Nat → (Nat → Prop) → Act → World → Prop) (hAx : ∀ l k own a' W o o', w.heap.size ≤ l → Ax k own a' W → W.heap[l]? = some o → o.isCells = false → Ax k own a' (W.putObj l o'))
    (hassign : ∀ l n k own args W, w.heap.size ≤ l → I k own W → (∀ b, own b → b < W.heap.size) → l < W.heap.size → ¬ own l → k < N → El k W args → (∀ b, Gv args b → ¬ own b) →
      assign.wpIn (Fence.wide.inRound l) n P (Exit.then (fun a' W' => ∃ own', GrowG (Gv args) own own' W ∧ (∀ b, own' b → b < W'.heap.size) ∧ Chg own W W' ∧ I k own' W' ∧ Ax k own' a' W') (fun _ _ _ => False))
        { tmps := (ps.zip args).foldl (fun t (p, v) => t.setIfInBounds p v) a.tmps, defers := [] } W)
    (hbody : ∀ l n k own a' W, w.heap.size ≤ l → I k own W → (∀ b, own b → b < W.heap.size) → (∃ r, W.heap[l]? = some (.loop r)) → ¬ own l → k < N → Ax k own a' W → body.wpIn (Fence.wide.inRound l) n P (roundQ I Ix k own W) a' W)
    (hdone : ∀ D own W, w.heap.size ≤ D → (∀ b, own b → b < W.heap.size) → ¬ own D → I N own W → W.heap[D]? = some (.deferred (some [])) → Q .normal { a with defers := { target := .collected D, args := #[] } :: a.defers } W)
    (hstop : ∀ D c k own W, w.heap.size ≤ D → (∀ b, own b → b < W.heap.size) → ¬ own D → k ≤ N → Ix c k own W → W.heap[D]? = some (.deferred (some [])) → c.wpIn Fence.wide n P Q { a with defers := { target := .collected D, args := #[] } :: a.defers } W) :
    (Code.rangeFunc g ps assign body).wpIn Fence.wide n P Q a w := by
  refine wpIn_rangeFunc ?_
  intro fn hfn
  obtain ⟨rec, hrec⟩ : ∃ rec : LoopState → Option Code → Loop, rec = fun st pe => { state := st, pending := pe, fn, tmps := a.tmps, params := ps, assign, body, defers := w.heap.size } := ⟨_, rfl⟩
  obtain ⟨W1, hW1⟩ : ∃ W1, (w.alloc (.deferred (some []))).alloc (.loop (rec .ready none)) = W1 := ⟨_, rfl⟩
  have hL1 : W1.heap[w.heap.size + 1]? = some (.loop (rec .ready none)) := by
    rw [← hW1]; have := World.alloc_heap_new (w.alloc (.deferred (some []))) (.loop (rec .ready none)); rwa [World.size_alloc] at this
  have hK1 : W1.heap[w.heap.size]? = some (.deferred (some [])) := by
    rw [← hW1]; exact (Below.heap_alloc _ _ _ (by simp)).trans (World.alloc_heap_new w _)
  have hS1 : W1.heap.size = w.heap.size + 2 := by rw [← hW1]; simp
  have hI1 : I 0 own0 W1 := by rw [← hW1]; exact hI _ _ _ _ h0 (((Chg.refl _ w).alloc _).alloc _)
  have hb1 : Below w.heap.size w W1 := by
    rw [← hW1]; exact ((Below.refl _ w).alloc (Nat.le_refl _) _).alloc (by simp) _
  have hnd : ¬ own0 w.heap.size := fun h => by have := (how0 _ h).1; omega
  have hnl : ¬ own0 (w.heap.size + 1) := fun h => by have := (how0 _ h).1; omega
  refine ⟨w.heap.size + 1, [{ target := .collected w.heap.size, args := #[] }], W1, { target := .fn (.func gf) lb, args := #[.func (.yield (w.heap.size + 1)) #[] #[]] }, W1, gf,
    #[.func (.yield (w.heap.size + 1)) #[] #[]] ++ lb, W1, ?_, ?_, ?_, ?_, fun h => by simp [Fence.wide] at h, ?_⟩
  · rw [← hW1, hrec]; exact run_enterLoop_outer _ _ _ _ _
  · simp only [resolve, hg]
    simp [go_sem]
  · intro f' _; trivial
  · simp [invoke, go_sem, eg]
  · refine callsIn_wide.2 ((hit (w.heap.size + 1)
      (fun k own W => I k own W ∧ W.heap[w.heap.size + 1]? = some (.loop (rec .ready none)) ∧ W.heap[w.heap.size]? = some (.deferred (some [])) ∧ ¬ own (w.heap.size + 1) ∧ ¬ own w.heap.size)
      (fun k own W => ∃ c, Ix c k own W ∧ W.heap[w.heap.size + 1]? = some (.loop (rec .done (some c))) ∧ W.heap[w.heap.size]? = some (.deferred (some [])) ∧ ¬ own (w.heap.size + 1) ∧ ¬ own w.heap.size)
      own0 W1 hb1 (by omega) (by omega) ?_ ?_ (fun b hb => ⟨by have := (how0 b hb).1; omega, (how0 b hb).2⟩) ?_ ⟨hI1, hL1, hK1, hnl, hnd⟩).mono ?_)
    · rintro k own W W' ⟨hi, hl, hd, h1, h2⟩ hc
      exact ⟨hI.up (by omega) _ _ _ _ hi hc, hc.heap hl (fun h => by omega), hc.heap hd (fun h => by omega), h1, h2⟩
    · rintro k own W W' ⟨c, hi, hl, hd, h1, h2⟩ hc
      exact ⟨c, (hIx c).up (by omega) _ _ _ _ hi hc, hc.heap hl (fun h => by omega), hc.heap hd (fun h => by omega), h1, h2⟩
    · rintro k own W args hk ⟨hi, hl, hd, h1, h2⟩ hsz how hel hG m
      have hr := round_law (P := P) w.heap.size (w.heap.size + 1) rec hrec I Ix hI hIx N El Gv hps (by omega) Ax (fun k own a' W o o' => hAx _ k own a' W o o' (by omega)) (fun n k own args W => hassign _ n k own args W (by omega)) (fun n k own a' W => hbody _ n k own a' W (by omega)) k own W args hk hi how hl h1 hel (fun b hb => ⟨by have := (hG b hb).1; omega, fun h => (hG b hb).2 h⟩) m
      refine hr.mono ?_
      have hdlt : w.heap.size < W.heap.size := (Array.getElem?_eq_some_iff.1 hd).1
      rintro e W' ⟨own', hg', ho', hc', hn', hh⟩
      have hnd' : ¬ own' w.heap.size := fun h => by
        rcases hg'.2 _ h with h | h | h
        · exact h2 h
        · omega
        · have := (hG _ h).1; omega
      have hd' : W'.heap[w.heap.size]? = some (.deferred (some [])) := hc'.heap hd (fun h => by
        rcases h with h | h | h
        · exact h2 h
        · omega
        · have := (hG _ h).1; omega)
      refine ⟨own', hg', ho', hc', ?_⟩
      rcases hh with ⟨rfl, hi', hl'⟩ | ⟨rfl, c, hi', hl'⟩
      · exact .inl ⟨rfl, hi', hl', hd', hn', hnd'⟩
      · exact .inr ⟨rfl, c, hi', hl', hd', hn', hnd'⟩
    · rintro e W2 ⟨⟨v, rfl⟩, own', ho', (⟨hi, hl, hd, h1, h2⟩ | ⟨k, hk, c, hi, hl, hd, h1, h2⟩)⟩
      · refine ⟨none, _, by have := run_endLoop (P := P) hl (by rw [hrec]; simp); rw [hrec] at this; exact this, hdone _ own' _ (Nat.le_refl _) (fun b hb => by rw [World.putObj_size]; exact ho' b hb) h2 (hI _ _ _ _ hi ((Chg.refl _ _).putObj (fun _ => ⟨by omega, h1⟩) _)) ((World.putObj_heap_other (by omega)).trans hd)⟩
      · refine ⟨some c, _, by have := run_endLoop (P := P) hl (by rw [hrec]; simp); rw [hrec] at this; exact this, hstop _ c k own' _ (Nat.le_refl _) (fun b hb => by rw [World.putObj_size]; exact ho' b hb) h2 hk ((hIx c) _ _ _ _ hi ((Chg.refl _ _).putObj (fun _ => ⟨by omega, h1⟩) _)) ((World.putObj_heap_other (by omega)).trans hd)⟩

/-- The law, at a loop that lies in a round of loop l₀. -/
theorem range_inner {P : Program} {n : Nat} {g : Operand} {ps : Array Tmp} {assign body : Code} {Q : Exit → Act → World → Prop} {a : Act} {w : World} {l₀ : Nat} {r₀ : Loop} (hr₀ : w.heap[l₀]? = some (.loop r₀)) {gf : Nat} {lb : Array Value} {N : Nat} {El : Nat → World → Array Value → Prop} {Gv : Array Value → Nat → Prop} {Rd : Nat → Prop}
    (hit : ItC P gf lb N El Gv Rd w) (hg : a.eval g = .func (.func gf) #[] lb) (eg : ∀ args w, (callFunc gf args).run P w = .ok (.enter gf args) w)
    (I : Nat → (Nat → Prop) → World → Prop) (Ix : Code → Nat → (Nat → Prop) → World → Prop) (own0 : Nat → Prop) (hI : Stable w.heap.size I) (hIx : ∀ c, Stable w.heap.size (Ix c))
    (hps : ∀ k W args, El k W args → args.size = ps.size) (how0 : ∀ b, own0 b → b < w.heap.size ∧ ¬ Rd b) (h0 : I 0 own0 w)
    (Ax : Nat → (Nat → Prop) → Act → World → Prop) (hAx : ∀ l k own a' W o o', w.heap.size ≤ l → Ax k own a' W → W.heap[l]? = some o → o.isCells = false → Ax k own a' (W.putObj l o'))
    (hassign : ∀ l n k own args W, w.heap.size ≤ l → I k own W → (∀ b, own b → b < W.heap.size) → l < W.heap.size → ¬ own l → k < N → El k W args → (∀ b, Gv args b → ¬ own b) →
      assign.wpIn (Fence.wide.inRound l) n P (Exit.then (fun a' W' => ∃ own', GrowG (Gv args) own own' W ∧ (∀ b, own' b → b < W'.heap.size) ∧ Chg own W W' ∧ I k own' W' ∧ Ax k own' a' W') (fun _ _ _ => False))
        { tmps := (ps.zip args).foldl (fun t (p, v) => t.setIfInBounds p v) a.tmps, defers := [] } W)
    (hbody : ∀ l n k own a' W, w.heap.size ≤ l → I k own W → (∀ b, own b → b < W.heap.size) → (∃ r, W.heap[l]? = some (.loop r)) → ¬ own l → k < N → Ax k own a' W → body.wpIn (Fence.wide.inRound l) n P (roundQ I Ix k own W) a' W)
    (hdone : ∀ own W, (∀ b, own b → b < W.heap.size) → I N own W → Q .normal a W)
    (hstop : ∀ c k own W, (∀ b, own b → b < W.heap.size) → k ≤ N → Ix c k own W → c.wpIn (Fence.wide.inRound l₀) n P Q a W) :
    (Code.rangeFunc g ps assign body).wpIn (Fence.wide.inRound l₀) n P Q a w := by
  refine wpIn_rangeFunc ?_
  intro fn hfn
  obtain ⟨rec, hrec⟩ : ∃ rec : LoopState → Option Code → Loop, rec = fun st pe => { state := st, pending := pe, fn, tmps := a.tmps, params := ps, assign, body, defers := r₀.defers } := ⟨_, rfl⟩
  obtain ⟨W1, hW1⟩ : ∃ W1, w.alloc (.loop (rec .ready none)) = W1 := ⟨_, rfl⟩
  have hL1 : W1.heap[w.heap.size]? = some (.loop (rec .ready none)) := by rw [← hW1]; exact World.alloc_heap_new w _
  have hS1 : W1.heap.size = w.heap.size + 1 := by rw [← hW1]; simp
  have hI1 : I 0 own0 W1 := by rw [← hW1]; exact hI _ _ _ _ h0 ((Chg.refl _ w).alloc _)
  have hb1 : Below w.heap.size w W1 := by rw [← hW1]; exact (Below.refl _ w).alloc (Nat.le_refl _) _
  have hnl : ¬ own0 w.heap.size := fun h => by have := (how0 _ h).1; omega
  refine ⟨w.heap.size, [], W1, { target := .fn (.func gf) lb, args := #[.func (.yield w.heap.size) #[] #[]] }, W1, gf,
    #[.func (.yield w.heap.size) #[] #[]] ++ lb, W1, ?_, ?_, ?_, ?_, fun h => by simp [Fence.wide] at h, ?_⟩
  · rw [← hW1, hrec]; exact run_enterLoop_inner hr₀ _ _ _ _ _
  · simp only [resolve, hg]
    simp [go_sem]
  · intro f' _; trivial
  · simp [invoke, go_sem, eg]
  · refine (callsIn_wide (n := n - 1)).2 ((hit w.heap.size
      (fun k own W => I k own W ∧ W.heap[w.heap.size]? = some (.loop (rec .ready none)) ∧ ¬ own w.heap.size)
      (fun k own W => ∃ c, Ix c k own W ∧ W.heap[w.heap.size]? = some (.loop (rec .done (some c))) ∧ ¬ own w.heap.size)
      own0 W1 hb1 (by omega) (by omega) ?_ ?_ (fun b hb => ⟨by have := (how0 b hb).1; omega, (how0 b hb).2⟩) ?_ ⟨hI1, hL1, hnl⟩).mono ?_)
    · rintro k own W W' ⟨hi, hl, h1⟩ hc
      exact ⟨hI.up (by omega) _ _ _ _ hi hc, hc.heap hl (fun h => by omega), h1⟩
    · rintro k own W W' ⟨c, hi, hl, h1⟩ hc
      exact ⟨c, (hIx c).up (by omega) _ _ _ _ hi hc, hc.heap hl (fun h => by omega), h1⟩
    · rintro k own W args hk ⟨hi, hl, h1⟩ hsz how hel hG m
      have hr := round_law (P := P) w.heap.size w.heap.size rec hrec I Ix hI hIx N El Gv hps (by omega) Ax (fun k own a' W o o' => hAx _ k own a' W o o' (by omega)) (fun n k own args W => hassign _ n k own args W (by omega)) (fun n k own a' W => hbody _ n k own a' W (by omega)) k own W args hk hi how hl h1 hel (fun b hb => ⟨by have := (hG b hb).1; omega, fun h => (hG b hb).2 h⟩) m
      refine hr.mono ?_
      rintro e W' ⟨own', hg', ho', hc', hn', hh⟩
      refine ⟨own', hg', ho', hc', ?_⟩
      rcases hh with ⟨rfl, hi', hl'⟩ | ⟨rfl, c, hi', hl'⟩
      · exact .inl ⟨rfl, hi', hl', hn'⟩
      · exact .inr ⟨rfl, c, hi', hl', hn'⟩
    · rintro e W2 ⟨⟨v, rfl⟩, own', ho', (⟨hi, hl, h1⟩ | ⟨k, hk, c, hi, hl, h1⟩)⟩
      · exact ⟨none, _, by have := run_endLoop (P := P) hl (by rw [hrec]; simp); rw [hrec] at this; exact this, hdone own' _ (fun b hb => by rw [World.putObj_size]; exact ho' b hb) (hI _ _ _ _ hi ((Chg.refl _ _).putObj (fun _ => ⟨by omega, h1⟩) _))⟩
      · exact ⟨some c, _, by have := run_endLoop (P := P) hl (by rw [hrec]; simp); rw [hrec] at this; exact this, hstop c k own' _ (fun b hb => by rw [World.putObj_size]; exact ho' b hb) hk ((hIx c) _ _ _ _ hi ((Chg.refl _ _).putObj (fun _ => ⟨by omega, h1⟩) _))⟩

end Go.Proofs.YtbmklpcheopgoaaIt

namespace Go.Proofs.YtbmklpcheopgoaaOps
open Go Go.RowKit Go.Proofs.YtbmklpcheopgoaaW.PrintWords Go.Proofs.YtbmklpcheopgoaaIt

theorem cell_far_lt {W w1 : World} {u : Value} {p : Addr} {v : Value} {B : Nat} (hg : W.grownBy w1 u.ownBlock) (h : W.cell? p = some v) (hu : ∀ k, u.ownBlock = some k → B ≤ k) (hp : p.block < B) : w1.cell? p = some v := by
  rw [hg.cell_far _ (World.block_lt_of_cell? W _ h) (fun e => by have := hu _ e.symm; omega)]; exact h
theorem cell_far_ge {W w1 : World} {u : Value} {p : Addr} {v : Value} {B : Nat} (hg : W.grownBy w1 u.ownBlock) (h : W.cell? p = some v) (hu : ∀ k, u.ownBlock = some k → k < B) (hp : B ≤ p.block) : w1.cell? p = some v := by
  rw [hg.cell_far _ (World.block_lt_of_cell? W _ h) (fun e => by have := hu _ e.symm; omega)]; exact h

section
variable {P : Program} {ops : Array Oper} {o : Oper} {a : Act} {Q : Exit → Act → World → Prop} {Kc : Act → World → Prop} {α : Type} {E : Prop}
/-- append(v, x) within a region that draws its order; the world at hand is any that is the one with the variadic's box. -/
theorem R_append_at (d : Kd α) {w0 W W1 : World} (base : Nat) (hgd : o.guard = none) (s x : Operand) (t e : TypeId) (z : Value) (bytes : Nat)
    (ho : o.op = .call { callee := .builtin .append, args := #[s, x], argTypes := #[t, t] })
    (ht : P.underlying t = some (.slice e)) (hinfo : (P.info? e).map (fun i => (i.zero, i.size, i.bytes)) = some (some z, d.sz, bytes)) (hz : z.cells.size = d.sz) (hs0 : 0 < d.sz) (hb0 : 0 < bytes)
    (v : Value) (xs : List α) (p : α) (cs : List Value) (hs : a.eval s = v) (H : Nat) (hx : a.eval x = .slice (some ⟨H, 0, none⟩) 1 1) (hH : W.heap.size = H) (hp : d.M W base (fun _ => False) p cs)
    (HO : d.R e W base (fun _ => True) v xs) (HB : Below base w0 W) (hbase : base ≤ W.heap.size) (hl : (xs.length + 1) * bytes ≤ 140737488355328) (hW : W1 = W.alloc (.cells cs.toArray e))
    (h : ∀ v1 w1, d.R e w1 base (fun _ => True) v1 (xs ++ [p]) → Below base w0 w1 → W.grownBy w1 v.ownBlock → (v1.ownBlock = v.ownBlock ∨ ∃ b, v1.ownBlock = some b ∧ W.heap.size ≤ b) → Kc (a.put o.dst v1) w1) :
    if Region.wanted o (yielded ops a.tmps) = true then Oper.wp P o a W1 Kc Q else E := by
  have hw : Region.wanted o (yielded ops a.tmps) = true := by simp [Region.wanted, hgd]
  subst hW
  subst hH
  have := Kd.R_append_step (ops := ops) (Q := Q) d (w0 := w0) base hw s x t e z bytes ho ht hinfo hz hs0 hb0 v xs p cs (fun _ => True) (fun _ => False) hs hx hp (fun _ h => h.elim) (fun _ _ => trivial) HO HB hbase hl h
  rw [if_pos hw] at this ⊢
  exact this
end

section
variable {P : Program} {ops : Array Oper} {rest : List Oper} {o : Oper} {a : Act} {Q : Exit → Act → World → Prop} {Kc : Act → World → Prop} {E : Prop} {s x : Operand} {t : TypeId} {v y v1 : Value} {W w1 : World}
/-- An append whose run is known: within a region that draws its order. -/
theorem app_reg (hgd : o.guard = none) (ho : o.op = .call { callee := .builtin .append, args := #[s, x], argTypes := #[t, t] }) (hs : a.eval s = v) (hx : a.eval x = y)
    (hr : (Builtin.append_ #[t, t] o.type #[v, y]).run P W = .ok v1 w1) (h : Kc (a.put o.dst v1) w1) : if Region.wanted o (yielded ops a.tmps) = true then Oper.wp P o a W Kc Q else E := by
  have hw : Region.wanted o (yielded ops a.tmps) = true := by simp [Region.wanted, hgd]
  rw [if_pos hw]
  unfold Oper.wp execOp
  simp only [ho, resolve, invoke, builtin, Sem.run_bind, Sem.run_pure, Result.andThen_ok, List.map_toArray, List.map_cons, List.map_nil, hs, hx, hr]
  exact h
/-- .. in a list of operations. -/
theorem app_list (hgd : o.guard = none) (ho : o.op = .call { callee := .builtin .append, args := #[s, x], argTypes := #[t, t] }) (hs : a.eval s = v) (hx : a.eval x = y)
    (hr : (Builtin.append_ #[t, t] o.type #[v, y]).run P W = .ok v1 w1) (h : wpList P ops Q rest (a.put o.dst v1) w1) : wpList P ops Q (o :: rest) a W := by
  refine wpList_plain hgd fun K hK => ?_
  unfold Oper.wp execOp
  simp only [ho, resolve, invoke, builtin, Sem.run_bind, Sem.run_pure, Result.andThen_ok, List.map_toArray, List.map_cons, List.map_nil, hs, hx, hr]
  exact hK _ _ h
/-- .. inside a fence. -/
theorem app_listIn {F : Fence} {n : Nat} (hgd : o.guard = none) (ho : o.op = .call { callee := .builtin .append, args := #[s, x], argTypes := #[t, t] }) (hs : a.eval s = v) (hx : a.eval x = y)
    (hr : (Builtin.append_ #[t, t] o.type #[v, y]).run P W = .ok v1 w1) (h : wpListIn F n P ops Q rest (a.put o.dst v1) w1) : wpListIn F n P ops Q (o :: rest) a W := by
  refine wpListIn_plain hgd fun K hK => ?_
  unfold Oper.wpIn
  refine ⟨?_, ?_⟩
  · simp [Oper.about, ho, resolve, Target.leads, Sem.run_pure]
  · rw [Oper.semAt_plain F _ _ (by rw [ho]; intro c hc'; cases hc')]
    simp [execOp, ho, resolve, invoke, builtin, hs, hx, hr, Result.andThen]
    exact hK _ _ h
end

section
variable {P : Program} {α : Type}
theorem one_of_reads (d : Kd α) {W : World} {ys : List α} {news : List Value} (hs0 : 0 < d.sz) (h : Reps (d.K W) d.sz ys news) : ∀ u ∈ news, u.oneCell' = true := by
  intro u hu
  obtain ⟨q, hq, rfl⟩ := List.mem_iff_getElem.1 hu
  have hql : q / d.sz < ys.length := by
    rw [Nat.div_lt_iff_lt_mul hs0]
    rw [← h.1]
    exact hq
  have hc := h.2 (q / d.sz) _ (List.getElem?_eq_getElem hql)
  refine d.K_one hc _ ?_
  rw [List.mem_iff_getElem?]
  refine ⟨q % d.sz, ?_⟩
  rw [List.getElem?_take, if_pos (Nat.mod_lt _ hs0), List.getElem?_drop, Nat.mul_comm, Nat.div_add_mod, List.getElem?_eq_getElem hq]

theorem C_of_row (d : Kd α) {W : World} {g n cap : Nat} {e : TypeId} {b : Nat} {inner : List Value} {xs : List α} (h : W.ownsRow b e d.sz (.slice (some ⟨g, 0, none⟩) n cap) n inner) (hr : Reps (d.K W) d.sz xs inner) (hn : xs.length = n) : d.C W (some ⟨g, 0, none⟩) n xs := by
  obtain ⟨A, c, e1, hC⟩ := own_reads_row h hr hn
  injection e1 with e1
  subst e1
  exact hC

/-- append(s, x...), s full: nothing more, or a new row. -/
theorem run_full (d : Kd α) {W : World} {t ty e : TypeId} {z : Value} {bytes : Nat} (ht : P.underlying t = some (.slice e)) (hinfo : (P.info? e).map (fun i => (i.zero, i.size, i.bytes)) = some (some z, d.sz, bytes)) (hz : z.cells.size = d.sz) (hs0 : 0 < d.sz) (hb0 : 0 < bytes)
    {A B : Option Addr} {n c m c' : Nat} {xs ys : List α} (hA : d.C W A n xs) (hB : d.C W B m ys) (hnc : n ≤ c) (hfull : c < n + m ∨ m = 0) (hl : (n + m) * bytes ≤ 140737488355328) (hnone : A = none → c = 0) :
    ∃ A1 c1 w1, (Builtin.append_ #[t, t] ty #[.slice A n c, .slice B m c']).run P W = .ok (.slice A1 (n + m) c1) w1 ∧ n + m ≤ c1 ∧ d.C w1 A1 (n + m) (xs ++ ys) ∧ Below W.heap.size W w1 := by
  obtain ⟨i0, hi, hzz⟩ := Option.map_eq_some_iff.1 hinfo
  simp only [Prod.mk.injEq] at hzz
  obtain ⟨hz0, hz1, hz2⟩ := hzz
  have hlen : n + m ≤ 140737488355328 := Nat.le_trans (Nat.le_mul_of_pos_right _ hb0) hl
  rcases Nat.eq_zero_or_pos m with rfl | hm
  · obtain rfl : ys = [] := List.eq_nil_of_length_eq_zero hB.1
    refine ⟨A, c, W, ?_, by simpa using hnc, by simpa using hA, Below.refl _ _⟩
    cases A <;> cases B <;> simp [Builtin.append_, run_underlying ht, sizeOf, typeInfo, hi, Builtin.lenOf, Builtin.firstCells, hnc, storeCells, loadCells, loadCellsFrom, Result.andThen]
  · obtain ⟨ad, rfl, _⟩ := hB.2.2 hm
    obtain ⟨news, hnr, hnews⟩ := ReadsRow.inner_ hB
    have hone := one_of_reads d hs0 hnr
    have hcap : c < n + m := by omega
    have mk : ∀ {olds : List Value} {v1 : Value} {w1 : World}, Reps (d.K W) d.sz xs olds → w1.ownsRow W.heap.size e d.sz v1 (n + m) (olds ++ news) → W.grownBy w1 none →
        ∃ A1 c1, v1 = .slice A1 (n + m) c1 ∧ n + m ≤ c1 ∧ d.C w1 A1 (n + m) (xs ++ ys) ∧ Below W.heap.size W w1 := by
      intro olds v1 w1 hor hown hg
      have hb : Below W.heap.size W w1 := ⟨hg.os, hg.tape, hg.output, hg.size, fun k hk => hg.block k hk (by simp)⟩
      have hreps : Reps (d.K w1) d.sz (xs ++ ys) (olds ++ news) := Kd.reps_append (hor.imp_ fun _ _ => d.K_below hb) (hnr.imp_ fun _ _ => d.K_below hb)
      obtain ⟨A1, c1, e1, hC⟩ := own_reads_row hown hreps (by rw [List.length_append, hA.1, hB.1])
      refine ⟨A1, c1, e1, ?_, hC, hb⟩
      rcases hown.2 with ⟨h1, h2⟩ | ⟨g, cap, cur, h1, _, _, h2, _⟩
      · omega
      · rw [e1] at h1; injection h1 with h3 h4 h5; omega
    rcases A with _ | b
    · have hc0 := hnone rfl
      obtain rfl : n = 0 := by omega
      obtain rfl : xs = [] := List.eq_nil_of_length_eq_zero hA.1
      subst hc0
      obtain ⟨v', w', hrun, r1, r2, _⟩ := run_append_own (P := P) W W.heap.size t ty e i0 z d.sz bytes ht hi hz0 hz1 hz2 hz hs0 (.slice none 0 0) 0 [] (World.ownsRow_nil W _ e d.sz) ad m c' news (by rw [hnr.1, hB.1]) hnews hone (by simp only [maxLen]; omega) hl (Nat.le_refl _)
      obtain ⟨A1, c1, rfl, h1, h2, h3⟩ := mk (olds := []) (Reps.none _ _) r1 r2
      exact ⟨A1, c1, w', hrun, h1, h2, h3⟩
    · obtain ⟨olds, hor, holds⟩ : ∃ olds, Reps (d.K W) d.sz xs olds ∧ ∀ j u, olds[j]? = some u → W.cell? (b.add j) = some u := by
        rcases Nat.eq_zero_or_pos n with rfl | hn
        · obtain rfl : xs = [] := List.eq_nil_of_length_eq_zero hA.1
          exact ⟨[], Reps.none _ _, fun j u h => by simp at h⟩
        · exact ReadsRow.inner_ hA
      obtain ⟨v', w', hrun, r1, r2⟩ := run_append_arg_grows (P := P) W t ty e i0 z d.sz bytes ht hi hz0 hz1 hz2 hz hs0 b n c olds (by rw [hor.1, hA.1]) holds ad m c' news (by rw [hnr.1, hB.1]) hnews hcap (by simp only [maxLen]; omega) hl
      obtain ⟨A1, c1, rfl, h1, h2, h3⟩ := mk hor r1 r2
      exact ⟨A1, c1, w', hrun, h1, h2, h3⟩
/-- .. and the new row's block is new. -/
theorem run_fresh (d : Kd α) {W : World} {t ty e : TypeId} {z : Value} {bytes : Nat} (ht : P.underlying t = some (.slice e)) (hinfo : (P.info? e).map (fun i => (i.zero, i.size, i.bytes)) = some (some z, d.sz, bytes)) (hz : z.cells.size = d.sz) (hs0 : 0 < d.sz) (hb0 : 0 < bytes)
    {A B : Option Addr} {n c m c' : Nat} {xs ys : List α} (hA : d.C W A n xs) (hB : d.C W B m ys) (hnc : n ≤ c) (hfull : c < n + m ∨ m = 0) (hl : (n + m) * bytes ≤ 140737488355328) (hnone : A = none → c = 0) :
    ∃ A1 c1 w1, (Builtin.append_ #[t, t] ty #[.slice A n c, .slice B m c']).run P W = .ok (.slice A1 (n + m) c1) w1 ∧ n + m ≤ c1 ∧ d.C w1 A1 (n + m) (xs ++ ys) ∧ Below W.heap.size W w1 ∧ (0 < m → ∃ g, A1 = some ⟨g, 0, none⟩ ∧ W.heap.size ≤ g) := by
  obtain ⟨i0, hi, hzz⟩ := Option.map_eq_some_iff.1 hinfo
  simp only [Prod.mk.injEq] at hzz
  obtain ⟨hz0, hz1, hz2⟩ := hzz
  have hlen : n + m ≤ 140737488355328 := Nat.le_trans (Nat.le_mul_of_pos_right _ hb0) hl
  rcases Nat.eq_zero_or_pos m with rfl | hm
  · obtain rfl : ys = [] := List.eq_nil_of_length_eq_zero hB.1
    refine ⟨A, c, W, ?_, by simpa using hnc, by simpa using hA, Below.refl _ _, fun h => absurd h (by omega)⟩
    cases A <;> cases B <;> simp [Builtin.append_, run_underlying ht, sizeOf, typeInfo, hi, Builtin.lenOf, Builtin.firstCells, hnc, storeCells, loadCells, loadCellsFrom, Result.andThen]
  · obtain ⟨ad, rfl, _⟩ := hB.2.2 hm
    obtain ⟨news, hnr, hnews⟩ := ReadsRow.inner_ hB
    have hone := one_of_reads d hs0 hnr
    have hcap : c < n + m := by omega
    have mk : ∀ {olds : List Value} {v1 : Value} {w1 : World}, Reps (d.K W) d.sz xs olds → w1.ownsRow W.heap.size e d.sz v1 (n + m) (olds ++ news) → W.grownBy w1 none →
        ∃ A1 c1, v1 = .slice A1 (n + m) c1 ∧ n + m ≤ c1 ∧ d.C w1 A1 (n + m) (xs ++ ys) ∧ Below W.heap.size W w1 ∧ (∃ g, A1 = some ⟨g, 0, none⟩ ∧ W.heap.size ≤ g) := by
      intro olds v1 w1 hor hown hg
      have hb : Below W.heap.size W w1 := ⟨hg.os, hg.tape, hg.output, hg.size, fun k hk => hg.block k hk (by simp)⟩
      have hreps : Reps (d.K w1) d.sz (xs ++ ys) (olds ++ news) := Kd.reps_append (hor.imp_ fun _ _ => d.K_below hb) (hnr.imp_ fun _ _ => d.K_below hb)
      obtain ⟨A1, c1, e1, hC⟩ := own_reads_row hown hreps (by rw [List.length_append, hA.1, hB.1])
      refine ⟨A1, c1, e1, ?_, hC, hb, ?_⟩
      rotate_left
      · rcases hown.2 with ⟨h1, h2⟩ | ⟨g, cap, cur, h1, hg1, _⟩
        · omega
        · rw [e1] at h1; injection h1 with h3 h4 h5; exact ⟨g, h3, hg1⟩
      rcases hown.2 with ⟨h1, h2⟩ | ⟨g, cap, cur, h1, _, _, h2, _⟩
      · omega
      · rw [e1] at h1; injection h1 with h3 h4 h5; omega
    rcases A with _ | b
    · have hc0 := hnone rfl
      obtain rfl : n = 0 := by omega
      obtain rfl : xs = [] := List.eq_nil_of_length_eq_zero hA.1
      subst hc0
      obtain ⟨v', w', hrun, r1, r2, _⟩ := run_append_own (P := P) W W.heap.size t ty e i0 z d.sz bytes ht hi hz0 hz1 hz2 hz hs0 (.slice none 0 0) 0 [] (World.ownsRow_nil W _ e d.sz) ad m c' news (by rw [hnr.1, hB.1]) hnews hone (by simp only [maxLen]; omega) hl (Nat.le_refl _)
      obtain ⟨A1, c1, rfl, h1, h2, h3, h4⟩ := mk (olds := []) (Reps.none _ _) r1 r2
      exact ⟨A1, c1, w', hrun, h1, h2, h3, fun _ => h4⟩
    · obtain ⟨olds, hor, holds⟩ : ∃ olds, Reps (d.K W) d.sz xs olds ∧ ∀ j u, olds[j]? = some u → W.cell? (b.add j) = some u := by
        rcases Nat.eq_zero_or_pos n with rfl | hn
        · obtain rfl : xs = [] := List.eq_nil_of_length_eq_zero hA.1
          exact ⟨[], Reps.none _ _, fun j u h => by simp at h⟩
        · exact ReadsRow.inner_ hA
      obtain ⟨v', w', hrun, r1, r2⟩ := run_append_arg_grows (P := P) W t ty e i0 z d.sz bytes ht hi hz0 hz1 hz2 hz hs0 b n c olds (by rw [hor.1, hA.1]) holds ad m c' news (by rw [hnr.1, hB.1]) hnews hcap (by simp only [maxLen]; omega) hl
      obtain ⟨A1, c1, rfl, h1, h2, h3, h4⟩ := mk hor r1 r2
      exact ⟨A1, c1, w', hrun, h1, h2, h3, fun _ => h4⟩
end
end Go.Proofs.YtbmklpcheopgoaaOps

namespace Go.Proofs.Ytbmklpcheopgoaa.H
open Go.RowKit Go.Shelf Go.Proofs.YtbmklpcheopgoaaW.PrintWords Go.Proofs.YtbmklpcheopgoaaW.PrintLast Go.Proofs.YtbmklpcheopgoaaW.PrintMore Go.Proofs.YtbmklpcheopgoaaIt
attribute [local go_sem] Oper.semAt_some
theorem wide_depth : Fence.wide.depth = none := rfl
theorem wide_fn (f : FuncId) : Fence.wide.fn f = True := rfl
attribute [local go_sem] wide_depth wide_fn

/-- The cuts: where each begins, and where the next one does. -/
def cutsF : Int → List Int → Int → List (Int × Int)
  | _, [], _ => []
  | b, e :: es, n => if e < b ∨ n ≤ e then [] else (b, e + 1) :: cutsF (e + 1) es n
def cutsL (es : List Int) (n : Int) : List (Int × Int) := cutsF 0 es n

theorem cutsF_drop (es : List Int) (b n : Int) (i : Nat) (h : i < es.length) : cutsF b (es.drop i) n = if rd es i < b ∨ n ≤ rd es i then [] else (b, rd es i + 1) :: cutsF (rd es i + 1) (es.drop (i + 1)) n := by
  rw [List.drop_eq_getElem_cons h]
  simp [cutsF, rd, h]

/-- A slice's own block. -/
def BlkOf (A : Option Addr) (b : Nat) : Prop := ∃ ad, A = some ad ∧ b = ad.block

theorem add_block (ad : Addr) (j : Nat) : (ad.add j).block = ad.block := by unfold Addr.add; split <;> rfl

theorem at_int_chg {S : Nat → Prop} {w W : World} {A : Option Addr} {n : Nat} {xs : List Int} {k : IntKind} (h : (Kd.int k).C w A n xs) (hc : Chg S w W) (hA : ∀ b, b < w.heap.size → BlkOf A b → ¬ S b) (i : Int) (h0 : 0 ≤ i) (h1 : i < n) :
    ∃ ad, A = some ad ∧ W.cell? (ad.add i.toNat) = some (.int k (rd xs i)) := by
  obtain ⟨ad, e, hx⟩ := Kd.at_int h i h0 h1
  refine ⟨ad, e, ?_⟩
  have hb : (ad.add i.toNat).block < w.heap.size := World.block_lt_of_cell? w _ hx
  exact (hc.cell hb (hA _ hb ⟨ad, e, add_block _ _⟩)).trans hx

theorem cuts_calls (n : Nat) (A : Option Addr) (len cap : Nat) (m : Int) (w : World) :
    CallsIn Fence.wide n Try.prog 47 #[.slice A len cap, .int .i64 m] w fun e w' => e = .returned (.func (.func 55) #[] #[.pointer (some ⟨w.heap.size, 0, none⟩), .pointer (some ⟨w.heap.size + 1, 0, none⟩)]) ∧
      w' = (w.alloc (.cells #[.slice A len cap] 23)).alloc (.cells #[.int .i64 m] 3) := by
  refine callsIn_of_wp Try.func47 rfl trivial ?_ rfl
  simp only [Try.ntmps47, List.size_toArray, List.length_cons, List.length_nil, Nat.reduceAdd, Nat.reduceSub, Array.replicate_succ, Array.replicate_zero, List.push_toArray, List.append_toArray, List.nil_append, List.cons_append]
  gi_wp2
  go_ret
  exact ⟨rfl, rfl⟩

set_option maxRecDepth 100000 in
set_option maxHeartbeats 2000000 in
theorem cuts_it (w : World) (A : Option Addr) (cap : Nat) (es : List Int) (m : Int) (hm : m ≤ 9223372036854775807) (B1 B2 : Nat) (h1 : w.cell? ⟨B1, 0, none⟩ = some (.slice A es.length cap)) (h2 : w.cell? ⟨B2, 0, none⟩ = some (.int .i64 m)) (hes : (Kd.int .i64).C w A es.length es) :
    ItC Try.prog 55 #[.pointer (some ⟨B1, 0, none⟩), .pointer (some ⟨B2, 0, none⟩)] (cutsL es m).length
      (fun k _ args => ∃ c, (cutsL es m)[k]? = some c ∧ args = #[.int .i64 k, .agg #[.int .i64 c.1, .int .i64 c.2]]) (fun _ _ => False) (fun b => (0 < es.length ∧ BlkOf A b) ∨ b = B1 ∨ b = B2) w := by
  intro l J Jx own0 W hW hlw hlW hJ hJx hown hY h0
  have hb1 : B1 < w.heap.size := World.block_lt_of_cell? w _ h1
  have hb2 : B2 < w.heap.size := World.block_lt_of_cell? w _ h2
  have hmax := Kd.C_max hes
  refine (callsIn_wide (n := 0)).1 (callsIn_of_wp Try.func55 rfl trivial ?_ rfl)
  simp only [Try.ntmps55, List.size_toArray, List.length_cons, List.length_nil, Nat.reduceAdd, Nat.reduceSub, Array.replicate_succ, Array.replicate_zero, List.push_toArray, List.append_toArray, List.nil_append, List.cons_append]
  have c1 : W.cell? ⟨B1, 0, none⟩ = some (.slice A es.length cap) := (hW.cell (p := ⟨B1, 0, none⟩) hb1).trans h1
  gi_wp2
  gi_loopw [4, 9] (fun v4 v9 wr => ∃ (i : Nat) (b : Int) (own : Nat → Prop), v4 = .int .i64 b ∧ v9 = .int .i64 i ∧ i ≤ es.length ∧ 0 ≤ b ∧ (cutsL es m).length = i + (cutsF b (es.drop i) m).length ∧ (cutsL es m).drop i = cutsF b (es.drop i) m ∧
      J i own wr ∧ Since l own0 W own (fun _ => False) wr)
    (fun _ v9 _ => es.length - (intOf v9).toNat)
  case atStart => exact ⟨0, 0, own0, rfl, rfl, by omega, by omega, by simp [cutsL], by simp [cutsL], h0, Since.start fun b hb => (hown b hb).1⟩
  case round =>
    obtain ⟨i, b, own, rfl, rfl, hi, hb, hlen, hdr, hj, hsi⟩ := hrel
    have hrd := hsi.reads hW hlw hown (fun _ _ h => h)
    have c2 : wr.cell? ⟨B2, 0, none⟩ = some (.int .i64 m) := (hrd.cell (p := ⟨B2, 0, none⟩) hb2 (fun h => h (.inr (.inr rfl)))).trans h2
    by_cases hlt : i < es.length
    · obtain ⟨ad, rfl, hx⟩ := at_int_chg hes hrd (fun _ _ hq h => h (.inl ⟨by omega, hq⟩)) (i : Int) (by omega) (by omega)
      simp only [Int.toNat_natCast] at hx
      rw [cutsF_drop es b m i hlt] at hlen hdr
      by_cases hstop : rd es i < b ∨ m ≤ rd es i
      · rw [if_pos hstop] at hlen hdr
        simp only [List.length_nil, Nat.add_zero] at hlen
        by_cases hs1 : rd es i < b
        · have d1 : decide (rd es i < b) = true := decide_eq_true hs1
          gi_wp2
          refine bodyPost_ret (results_none rfl _ _ _) rfl ?_
          exact ⟨⟨_, rfl⟩, own, hsi.lt, .inl (by first | exact hj | (rw [hlen]; exact hj))⟩
        · have d1 : decide (rd es i < b) = false := decide_eq_false hs1
          have hs2 : m ≤ rd es i := by omega
          have d2 : decide (m ≤ rd es i) = true := decide_eq_true hs2
          gi_wp2
          refine bodyPost_ret (results_none rfl _ _ _) rfl ?_
          exact ⟨⟨_, rfl⟩, own, hsi.lt, .inl (by first | exact hj | (rw [hlen]; exact hj))⟩
      · rw [if_neg hstop] at hlen hdr
        have hki : (cutsL es m)[i]? = some (b, rd es i + 1) := by
          have := congrArg (fun q => q[0]?) hdr
          simpa [List.getElem?_drop] using this
        simp only [List.length_cons] at hlen
        obtain ⟨fn, tmps, assign, body, hy, hR⟩ := hY i own wr _ (by omega) hj hsi.chg.size hsi.lt ⟨_, hki, rfl⟩ (fun _ h => h.elim) 0
        dsimp only at hy
        have d1 : decide (rd es i < b) = false := decide_eq_false (by omega)
        have d2 : decide (m ≤ rd es i) = false := decide_eq_false (by omega)
        have g1 : b ≤ rd es i := by omega
        have g2 : rd es i < m := by omega
        have hN := Lib.hid hlen
        have hD := Lib.hid hdr
        have hK := Lib.hid hki
        clear hlen hdr hki
        gi_wp2
        refine hR.mono ?_
        rintro e W3 ⟨own', hg3, ho3, hc3, (⟨rfl, hJ3⟩ | ⟨rfl, hJ3⟩)⟩
        · gi_wp2
          go_roundw
          case rel =>
            exact ⟨i + 1, rd es i + 1, own', rfl, by simp, by omega, by omega, by have := hN.out; omega, by
              have := congrArg (List.drop 1) hD.out
              simpa [List.drop_drop, Nat.add_comm] using this, hJ3, hsi.next hg3 ho3 hc3 (fun _ h => h.elim)⟩
          case measure => simp [intOf]; omega
        · gi_wp2
          refine bodyPost_ret (results_none rfl _ _ _) rfl ?_
          exact ⟨⟨_, rfl⟩, own', ho3, .inr ⟨i + 1, by have := hN.out; omega, hJ3⟩⟩
    · obtain rfl : i = es.length := by omega
      simp only [List.drop_length, cutsF, List.length_nil, Nat.add_zero] at hlen
      gi_wp2
      go_end0
      exact ⟨⟨_, rfl⟩, own, hsi.lt, .inl (by first | exact hj | (rw [hlen]; exact hj))⟩

end Go.Proofs.Ytbmklpcheopgoaa.H

namespace Go.Proofs.YtbmklpcheopgoaaReg
open Go

/-- An order in which each operation stands behind all that it waits for. -/
def topoB (ops : Array Oper) : List Nat → List Nat → Bool
  | [], _ => true
  | i :: is, done => (match ops[i]? with | some o => o.after.all fun e => !Region.binds .any e || done.contains e.on | none => false) && topoB ops is (i :: done)

theorem topo_listed {ops : Array Oper} {listed : Array Bool} (hr : Region.ready .any ops listed = []) : ∀ (is done : List Nat), topoB ops is done = true → (∀ i ∈ done, listed.getD i false = true) → (∀ i ∈ is, i < ops.size → listed.size = ops.size → listed.getD i false = true)
  | [], _, _, _ => fun i hi => by cases hi
  | i :: is, done, h, hd => by
    intro j hj hlt hs
    unfold topoB at h
    simp only [Bool.and_eq_true] at h
    have hi : i < ops.size → listed.getD i false = true := by
      intro hlt'
      by_cases hl : listed.getD i false = true
      · exact hl
      · have h1 := h.1
        rw [Array.getElem?_eq_getElem hlt'] at h1
        have hall := Array.all_eq_true_iff_forall_mem.1 h1
        have : i ∈ Region.ready .any ops listed := by
          refine mem_ready.2 ⟨?_, _, Array.getElem?_eq_getElem hlt', fun e he hb => ?_⟩
          · simp only [Array.getD, hs, hlt'] at hl ⊢
            simpa using hl
          · have := hall e he
            simp only [hb, Bool.not_true, Bool.false_or, List.contains_iff_mem] at this
            exact hd _ (by simpa using this)
        rw [hr] at this
        cases this
    rcases List.mem_cons.1 hj with rfl | hj
    · exact hi hlt
    · refine topo_listed hr is (i :: done) h.2 (fun k hk => ?_) j hj hlt hs
      rcases List.mem_cons.1 hk with rfl | hk
      · have h1 := h.1
        cases ho : ops[k]? with
        | none => rw [ho] at h1; cases h1
        | some o => exact hi (Array.getElem?_eq_some_iff.1 ho).1
      · exact hd k hk

section
variable {F : Fence} {n : Nat} {P : Program} {ops : Array Oper} {Q : Exit → Act → World → Prop} {id : Nat}

theorem anyIn_inv (is : List Nat) (ht : topoB ops is [] = true) (hall : (List.range ops.size).all is.contains = true) (Inv : Array Bool → Act → World → Prop) (hsz : ∀ l a w, Inv l a w → l.size = ops.size)
    (hstep : ∀ l a w i o, Inv l a w → ops[i]? = some o → l.getD i true = false → (∀ e ∈ o.after, Region.binds .any e = true → l.getD e.on false = true) →
      ∀ K : Act → World → Prop, (∀ a' w', Inv (l.setIfInBounds i true) a' w' → K a' w') → wpOpIn F n P ops Q i K a w)
    (hend : ∀ l a w, Inv l a w → (∀ i, i < ops.size → l.getD i false = true) → Q .normal a w) :
    ∀ (fuel : Nat) (l : Array Bool) (a : Act) (w : World), Inv l a w → (l.toList.count false ≤ fuel) → wpAnyIn F n P .any ops Q fuel l a w := by
  have fin : ∀ l a w, Inv l a w → Region.ready .any ops l = [] → Q .normal a w := fun l a w hi hr => hend l a w hi fun i hlt =>
    topo_listed hr is [] ht (fun i h => by cases h) i (by have := List.all_eq_true.1 hall i (List.mem_range.2 hlt); simpa using this) hlt (hsz l a w hi)
  intro fuel
  induction fuel with
  | zero =>
    intro l a w hi hc
    have hr : Region.ready .any ops l = [] := by
      refine List.eq_nil_iff_forall_not_mem.2 fun i hm => ?_
      obtain ⟨hf, o, ho, _⟩ := mem_ready.1 hm
      have hlt : i < l.size := by rw [hsz l a w hi]; exact (Array.getElem?_eq_some_iff.1 ho).1
      have : false ∈ l.toList := by
        simp only [Array.getD, hlt, dite_true] at hf
        rw [← hf]
        simp
      have := List.count_pos_iff.2 this
      omega
    exact ⟨hr, fin l a w hi hr⟩
  | succ fuel ih =>
    intro l a w hi hc
    refine ⟨fin l a w hi, fun i hm => ?_⟩
    obtain ⟨hf, o, ho, hw⟩ := mem_ready.1 hm
    refine hstep l a w i o hi ho hf (fun e he hb => hw e he hb) _ fun a' w' hi' => ih _ a' w' hi' ?_
    have hlt : i < l.size := by rw [hsz l a w hi]; exact (Array.getElem?_eq_some_iff.1 ho).1
    have h1 : l[i] = false := by simpa [Array.getD, hlt] using hf
    have : (l.setIfInBounds i true).toList.count false + 1 = l.toList.count false := by
      have hpos : 0 < l.toList.count false := List.count_pos_iff.2 (by rw [← h1]; simp)
      rw [Array.toList_setIfInBounds, List.count_set (by simpa using hlt)]
      have e1 : (l.toList[i]'(by simpa using hlt) == false) = true := by simp [h1]
      have e2 : (true == false) = false := rfl
      rw [if_pos e1, e2, if_neg (by decide)]
      omega
    omega

theorem regIn_inv {a : Act} {w : World} (hm : P.follows .mixedOrders = true) (is : List Nat) (ht : topoB ops is [] = true) (hall : (List.range ops.size).all is.contains = true) (Inv : Array Bool → Act → World → Prop) (hsz : ∀ l a w, Inv l a w → l.size = ops.size)
    (h0 : Inv (Array.replicate ops.size false) a w.drew)
    (hstep : ∀ l a w i o, Inv l a w → ops[i]? = some o → l.getD i true = false → (∀ e ∈ o.after, Region.binds .any e = true → l.getD e.on false = true) →
      ∀ K : Act → World → Prop, (∀ a' w', Inv (l.setIfInBounds i true) a' w' → K a' w') → wpOpIn F n P ops Q i K a w)
    (hend : ∀ l a w, Inv l a w → (∀ i, i < ops.size → l.getD i false = true) → Q .normal a w) : (Code.region id ops true).wpIn F n P Q a w :=
  wpIn_region_any hm (anyIn_inv is ht hall Inv hsz hstep hend ops.size _ a _ h0 (by simp))

theorem any_inv (is : List Nat) (ht : topoB ops is [] = true) (hall : (List.range ops.size).all is.contains = true) (Inv : Array Bool → Act → World → Prop) (hsz : ∀ l a w, Inv l a w → l.size = ops.size)
    (hstep : ∀ l a w i o, Inv l a w → ops[i]? = some o → l.getD i true = false → (∀ e ∈ o.after, Region.binds .any e = true → l.getD e.on false = true) →
      ∀ K : Act → World → Prop, (∀ a' w', Inv (l.setIfInBounds i true) a' w' → K a' w') → wpOp P ops Q i K a w)
    (hend : ∀ l a w, Inv l a w → (∀ i, i < ops.size → l.getD i false = true) → Q .normal a w) :
    ∀ (fuel : Nat) (l : Array Bool) (a : Act) (w : World), Inv l a w → (l.toList.count false ≤ fuel) → wpAny P .any ops Q fuel l a w := by
  have fin : ∀ l a w, Inv l a w → Region.ready .any ops l = [] → Q .normal a w := fun l a w hi hr => hend l a w hi fun i hlt =>
    topo_listed hr is [] ht (fun i h => by cases h) i (by have := List.all_eq_true.1 hall i (List.mem_range.2 hlt); simpa using this) hlt (hsz l a w hi)
  intro fuel
  induction fuel with
  | zero =>
    intro l a w hi hc
    have hr : Region.ready .any ops l = [] := by
      refine List.eq_nil_iff_forall_not_mem.2 fun i hm => ?_
      obtain ⟨hf, o, ho, _⟩ := mem_ready.1 hm
      have hlt : i < l.size := by rw [hsz l a w hi]; exact (Array.getElem?_eq_some_iff.1 ho).1
      have : false ∈ l.toList := by
        simp only [Array.getD, hlt, dite_true] at hf
        rw [← hf]
        simp
      have := List.count_pos_iff.2 this
      omega
    exact ⟨hr, fin l a w hi hr⟩
  | succ fuel ih =>
    intro l a w hi hc
    refine ⟨fin l a w hi, fun i hm => ?_⟩
    obtain ⟨hf, o, ho, hw⟩ := mem_ready.1 hm
    refine hstep l a w i o hi ho hf (fun e he hb => hw e he hb) _ fun a' w' hi' => ih _ a' w' hi' ?_
    have hlt : i < l.size := by rw [hsz l a w hi]; exact (Array.getElem?_eq_some_iff.1 ho).1
    have h1 : l[i] = false := by simpa [Array.getD, hlt] using hf
    have : (l.setIfInBounds i true).toList.count false + 1 = l.toList.count false := by
      have hpos : 0 < l.toList.count false := List.count_pos_iff.2 (by rw [← h1]; simp)
      rw [Array.toList_setIfInBounds, List.count_set (by simpa using hlt)]
      have e1 : (l.toList[i]'(by simpa using hlt) == false) = true := by simp [h1]
      have e2 : (true == false) = false := rfl
      rw [if_pos e1, e2, if_neg (by decide)]
      omega
    omega

theorem reg_inv {a : Act} {w : World} (hm : P.follows .mixedOrders = true) (is : List Nat) (ht : topoB ops is [] = true) (hall : (List.range ops.size).all is.contains = true) (Inv : Array Bool → Act → World → Prop) (hsz : ∀ l a w, Inv l a w → l.size = ops.size)
    (h0 : Inv (Array.replicate ops.size false) a w.drew)
    (hstep : ∀ l a w i o, Inv l a w → ops[i]? = some o → l.getD i true = false → (∀ e ∈ o.after, Region.binds .any e = true → l.getD e.on false = true) →
      ∀ K : Act → World → Prop, (∀ a' w', Inv (l.setIfInBounds i true) a' w' → K a' w') → wpOp P ops Q i K a w)
    (hend : ∀ l a w, Inv l a w → (∀ i, i < ops.size → l.getD i false = true) → Q .normal a w) : (Code.region id ops true).wp P Q a w :=
  wp_region_any hm (any_inv is ht hall Inv hsz hstep hend ops.size _ a _ h0 (by simp))

theorem opIn_val {a : Act} {w w1 : World} {i : Nat} {o : Oper} {K : Act → World → Prop} {v : Value} (ho : ops[i]? = some o) (hg : o.guard = none) (hfn : ∀ f, F.fn f) (hnd : ∀ c, o.op ≠ .defer c)
    (hrun : (execOp a.eval o).run P w = .ok (.value v) w1) (hK : K (a.put o.dst v) w1) : wpOpIn F n P ops Q i K a w := by
  unfold wpOpIn
  rw [ho]
  have hw : Region.wanted o (yielded ops a.tmps) = true := by simp [Region.wanted, hg]
  simp only [hw, if_true]
  unfold Oper.wpIn
  refine ⟨fun f _ => hfn f, ?_⟩
  rw [Oper.semAt_plain F _ _ hnd, hrun]
  exact hK
theorem opIn_skip {a : Act} {w w1 : World} {i : Nat} {o : Oper} {K : Act → World → Prop} (ho : ops[i]? = some o) (hg : o.guard = none) (hfn : ∀ f, F.fn f) (hnd : ∀ c, o.op ≠ .defer c)
    (hrun : (execOp a.eval o).run P w = .ok .skip w1) (hK : K (a.put o.dst undef) w1) : wpOpIn F n P ops Q i K a w := by
  unfold wpOpIn
  rw [ho]
  have hw : Region.wanted o (yielded ops a.tmps) = true := by simp [Region.wanted, hg]
  simp only [hw, if_true]
  unfold Oper.wpIn
  refine ⟨fun f _ => hfn f, ?_⟩
  rw [Oper.semAt_plain F _ _ hnd, hrun]
  exact hK
theorem opIn_wp {a : Act} {w : World} {i : Nat} {o : Oper} {K : Act → World → Prop} (ho : ops[i]? = some o) (hg : o.guard = none) (h : Oper.wpIn F n P o a w K Q) : wpOpIn F n P ops Q i K a w := by
  unfold wpOpIn
  rw [ho]
  have hw : Region.wanted o (yielded ops a.tmps) = true := by simp [Region.wanted, hg]
  simp only [hw, if_true]
  exact h
theorem op_val {a : Act} {w w1 : World} {i : Nat} {o : Oper} {K : Act → World → Prop} {v : Value} (ho : ops[i]? = some o) (hg : o.guard = none)
    (hrun : (execOp a.eval o).run P w = .ok (.value v) w1) (hK : K (a.put o.dst v) w1) : wpOp P ops Q i K a w := by
  unfold wpOp
  rw [ho]
  have hw : Region.wanted o (yielded ops a.tmps) = true := by simp [Region.wanted, hg]
  simp only [hw, if_true]
  refine .inl ?_
  unfold Oper.wp
  rw [hrun]
  exact hK
theorem op_skip {a : Act} {w w1 : World} {i : Nat} {o : Oper} {K : Act → World → Prop} (ho : ops[i]? = some o) (hg : o.guard = none)
    (hrun : (execOp a.eval o).run P w = .ok .skip w1) (hK : K (a.put o.dst undef) w1) : wpOp P ops Q i K a w := by
  unfold wpOp
  rw [ho]
  have hw : Region.wanted o (yielded ops a.tmps) = true := by simp [Region.wanted, hg]
  simp only [hw, if_true]
  refine .inl ?_
  unfold Oper.wp
  rw [hrun]
  exact hK
theorem op_wp {a : Act} {w : World} {i : Nat} {o : Oper} {K : Act → World → Prop} (ho : ops[i]? = some o) (hg : o.guard = none) (h : Oper.wp P o a w K Q) : wpOp P ops Q i K a w := by
  unfold wpOp
  rw [ho]
  have hw : Region.wanted o (yielded ops a.tmps) = true := by simp [Region.wanted, hg]
  simp only [hw, if_true]
  exact .inl h
end
end Go.Proofs.YtbmklpcheopgoaaReg

namespace Go.Proofs.YtbmklpcheopgoaaBlks
open Go Go.RowKit Go.Proofs.YtbmklpcheopgoaaIt Go.Proofs.YtbmklpcheopgoaaW.PrintWords

/-- Blocks, no two of them one, and what each of them is. -/
structure Blks (H : List (Nat × Obj)) (w : World) : Prop where
  nd : (H.map Prod.fst).Nodup
  at_ : ∀ p ∈ H, w.heap[p.1]? = some p.2

theorem Blks.nil (w : World) : Blks [] w := ⟨by simp, fun p h => by cases h⟩
theorem Blks.lt {H : List (Nat × Obj)} {w : World} (h : Blks H w) : ∀ b ∈ H.map Prod.fst, b < w.heap.size := by
  intro b hb
  obtain ⟨p, hp, rfl⟩ := List.mem_map.1 hb
  exact (Array.getElem?_eq_some_iff.1 (h.at_ p hp)).1
theorem Blks.alloc {H : List (Nat × Obj)} {w : World} (h : Blks H w) (o : Obj) : Blks ((w.heap.size, o) :: H) (w.alloc o) := by
  refine ⟨?_, ?_⟩
  · rw [List.map_cons, List.nodup_cons]
    exact ⟨fun hm => Nat.lt_irrefl _ (h.lt _ hm), h.nd⟩
  · intro p hp
    rcases List.mem_cons.1 hp with rfl | hp
    · exact World.alloc_heap_new w o
    · exact (Below.heap_alloc _ _ _ (h.lt _ (List.mem_map.2 ⟨p, hp, rfl⟩))).trans (h.at_ p hp)
theorem Blks.alloc_at {H : List (Nat × Obj)} {w : World} (h : Blks H w) (o : Obj) {g : Nat} (hg : g = w.heap.size) : Blks ((g, o) :: H) (w.alloc o) := by subst hg; exact h.alloc o
theorem Blks.add {H : List (Nat × Obj)} {w : World} (h : Blks H w) {b : Nat} {o : Obj} (hb : w.heap[b]? = some o) (hn : b ∉ H.map Prod.fst) : Blks ((b, o) :: H) w :=
  ⟨by rw [List.map_cons, List.nodup_cons]; exact ⟨hn, h.nd⟩, fun p hp => by
    rcases List.mem_cons.1 hp with rfl | hp
    · exact hb
    · exact h.at_ p hp⟩
theorem Blks.drew {H : List (Nat × Obj)} {w : World} (h : Blks H w) : Blks H w.drew := ⟨h.nd, h.at_⟩
theorem Blks.drewN {H : List (Nat × Obj)} {w : World} (h : Blks H w) (n : Nat) : Blks H (w.drewN n) := ⟨h.nd, h.at_⟩
theorem Blks.sub {H H' : List (Nat × Obj)} {w : World} (h : Blks H w) (hs : H'.Sublist H) : Blks H' w := ⟨(hs.map _).nodup h.nd, fun p hp => h.at_ p (hs.subset hp)⟩
theorem Blks.perm {H H' : List (Nat × Obj)} {w : World} (h : Blks H w) (hs : H.Perm H') : Blks H' w := ⟨(hs.map _).nodup_iff.1 h.nd, fun p hp => h.at_ p (hs.mem_iff.2 hp)⟩
theorem Blks.chg {H : List (Nat × Obj)} {w w' : World} {S : Nat → Prop} (h : Blks H w) (hc : Chg S w w') (hS : ∀ b ∈ H.map Prod.fst, ¬ S b) : Blks H w' :=
  ⟨h.nd, fun p hp => hc.heap (h.at_ p hp) (hS _ (List.mem_map.2 ⟨p, hp, rfl⟩))⟩
theorem Blks.below {H : List (Nat × Obj)} {w w' : World} (h : Blks H w) (hb : Below w.heap.size w w') : Blks H w' := h.chg (Chg.of_fresh (S := fun _ => False) hb) (fun _ _ => id)
theorem Blks.tail {H : List (Nat × Obj)} {p : Nat × Obj} {w : World} (h : Blks (p :: H) w) : Blks H w := h.sub (List.sublist_cons_self _ _)
/-- The k-th one, with other cells. -/
theorem Blks.put {H : List (Nat × Obj)} {w w' : World} {b : Nat} {o o' : Obj} (h : Blks H w) (k : Nat) (hk : H[k]? = some (b, o)) (hc : Chg (fun i => i = b) w w') (hb : w'.heap[b]? = some o') : Blks (H.set k (b, o')) w' := by
  have hlt : k < H.length := (List.getElem?_eq_some_iff.1 hk).1
  have hk' : H[k] = (b, o) := (List.getElem?_eq_some_iff.1 hk).2
  refine ⟨?_, ?_⟩
  · have e : (H.set k (b, o')).map Prod.fst = H.map Prod.fst := by
      rw [List.map_set]
      refine List.ext_getElem (by simp) ?_
      intro i h1 h2
      by_cases hi : k = i
      · subst hi; simp [hk']
      · simp [List.getElem_set_ne hi]
    rw [e]; exact h.nd
  · intro p hp
    rw [List.mem_iff_getElem] at hp
    obtain ⟨i, hi, rfl⟩ := hp
    rw [List.length_set] at hi
    by_cases e : k = i
    · subst e; simpa using hb
    · rw [List.getElem_set_ne e]
      refine hc.heap (h.at_ _ (List.getElem_mem hi)) (fun hh => e ?_)
      have hnd := h.nd
      have h1 : (H.map Prod.fst)[k]'(by simpa using hlt) = (H.map Prod.fst)[i]'(by simpa using hi) := by simp [hk', hh]
      rcases Nat.lt_trichotomy k i with hlt' | hlt' | hlt'
      · exact absurd h1 ((List.pairwise_iff_getElem.1 hnd) k i (by simpa using hlt) (by simpa using hi) hlt')
      · exact hlt'
      · exact absurd h1.symm ((List.pairwise_iff_getElem.1 hnd) i k (by simpa using hi) (by simpa using hlt) hlt')
theorem Blks.set {H : List (Nat × Obj)} {w : World} {b : Nat} {cs : Array Value} {t : TypeId} (h : Blks H w) (k : Nat) (hk : H[k]? = some (b, .cells cs t (0, 0))) (j : Nat) (v : Value) :
    Blks (H.set k (b, .cells (cs.setIfInBounds j v) t (0, 0))) (w.setCell ⟨b, j, none⟩ v) :=
  h.put k hk (Chg.setCell (S := fun i => i = b) (Chg.refl _ _) (p := ⟨b, j, none⟩) (fun _ => rfl) v) (blk_set (h.at_ _ (List.mem_of_getElem? hk)) j v)
theorem Blks.blk {H : List (Nat × Obj)} {w : World} {b : Nat} {o : Obj} (h : Blks H w) (k : Nat) (hk : H[k]? = some (b, o)) : w.heap[b]? = some o := h.at_ _ (List.mem_of_getElem? hk)

theorem Blks.cell {H : List (Nat × Obj)} {w : World} {b : Nat} {cs : Array Value} {t : TypeId} (h : Blks H w) (k : Nat) (hk : H[k]? = some (b, .cells cs t (0, 0))) (j : Nat) : w.cell? ⟨b, j, none⟩ = cs[j]? := blk_cell (h.blk k hk) j
theorem Blks.free {H : List (Nat × Obj)} {w : World} {b : Nat} {cs : Array Value} {t : TypeId} (h : Blks H w) (k : Nat) (hk : H[k]? = some (b, .cells cs t (0, 0))) (j : Nat) : w.frozen? ⟨b, j, none⟩ = false := blk_frozen (h.blk k hk) j

theorem Blks.put_ {H : List (Nat × Obj)} {w : World} {l : Nat} {o o' : Obj} (h : Blks H w) (hH : ∀ p ∈ H, p.2.isCells = true) (ho : w.heap[l]? = some o) (hn : o.isCells = false) : Blks H (w.putObj l o') :=
  h.chg (Chg.putSelf _ l o') (fun b hb e => by
    obtain ⟨p, hp, rfl⟩ := List.mem_map.1 hb
    have h1 := h.at_ p hp
    rw [e, ho] at h1
    cases h1
    rw [hH p hp] at hn
    cases hn)

/-- What the cells of the blocks hold, cell by cell. -/
def cellsF (w : World) (b : Nat) : Nat → List Value → Prop
  | _, [] => True
  | j, v :: vs => (w.cell? ⟨b, j, none⟩ = some v ∧ w.frozen? ⟨b, j, none⟩ = false) ∧ cellsF w b (j + 1) vs
def factsF (w : World) : List (Nat × Obj) → Prop
  | [] => True
  | (b, .cells cs _ fr) :: H => (fr = (0, 0) → cellsF w b 0 cs.toList) ∧ factsF w H
  | _ :: H => factsF w H
def neF1 (b : Nat) : List Nat → Prop
  | [] => True
  | c :: cs => (¬ b = c ∧ ¬ c = b) ∧ neF1 b cs
def neF : List Nat → Prop
  | [] => True
  | b :: bs => neF1 b bs ∧ neF bs
theorem cellsF_of {w : World} {b : Nat} {t : TypeId} : ∀ (vs : List Value) (j : Nat) (cs : Array Value), w.heap[b]? = some (.cells cs t (0, 0)) → cs.toList.drop j = vs → cellsF w b j vs
  | [], _, _, _, _ => trivial
  | v :: vs, j, cs, h, e => by
    have hj : cs[j]? = some v := by
      have := congrArg (fun l => l[0]?) e
      simpa [List.getElem?_drop] using this
    refine ⟨⟨(blk_cell h j).trans hj, blk_frozen h j⟩, cellsF_of vs (j + 1) cs h ?_⟩
    have := congrArg (List.drop 1) e
    simpa [List.drop_drop] using this
theorem factsF_of {w : World} : ∀ (H : List (Nat × Obj)), (∀ p ∈ H, w.heap[p.1]? = some p.2) → factsF w H
  | [], _ => trivial
  | (b, o) :: H, h => by
    have h1 := factsF_of H (fun p hp => h p (List.mem_cons_of_mem _ hp))
    have h0 := h (b, o) (List.mem_cons_self)
    cases o with
    | cells cs t fr => exact ⟨fun e => by subst e; exact cellsF_of _ 0 cs h0 (by simp), h1⟩
    | _ => exact h1
theorem neF1_of {b : Nat} : ∀ (cs : List Nat), b ∉ cs → neF1 b cs
  | [], _ => trivial
  | c :: cs, h => ⟨⟨fun e => h (by simp [e]), fun e => h (by simp [e])⟩, neF1_of cs (fun hm => h (List.mem_cons_of_mem _ hm))⟩
theorem neF_of : ∀ (bs : List Nat), bs.Nodup → neF bs
  | [], _ => trivial
  | b :: bs, h => by rw [List.nodup_cons] at h; exact ⟨neF1_of bs h.1, neF_of bs h.2⟩
theorem Blks.facts {H : List (Nat × Obj)} {w : World} (h : Blks H w) : factsF w H ∧ neF (H.map Prod.fst) := ⟨factsF_of H h.at_, neF_of _ h.nd⟩
theorem Blks.cells {H : List (Nat × Obj)} {w : World} (h : Blks H w) : factsF w H := factsF_of H h.at_
theorem Blks.ne {H : List (Nat × Obj)} {w : World} (h : Blks H w) : neF (H.map Prod.fst) := neF_of _ h.nd
end Go.Proofs.YtbmklpcheopgoaaBlks

namespace Go.Proofs.YtbmklpcheopgoaaFlat
open Go Go.RowKit Go.Proofs.YtbmklpcheopgoaaIt Go.Proofs.YtbmklpcheopgoaaBlks Go.Proofs.YtbmklpcheopgoaaW.PrintWords

/-- Elements that lead nowhere: what they are does not hang on the world. -/
def Flat {α : Type} (d : Kd α) : Prop := ∀ (w w' : World) (base base' : Nat) (ok ok' : Nat → Prop) (x : α) (cs : List Value), d.M w base ok x cs → d.M w' base' ok' x cs
theorem flat_int (k : IntKind) : Flat (Kd.int k) := fun _ _ _ _ _ _ _ _ h => h
theorem flat_bool : Flat Kd.bool := fun _ _ _ _ _ _ _ _ h => h

/-- The row's own block. -/
def Own1 (v : Value) (k : Nat) : Prop := some k = v.ownBlock
section
variable {α : Type} {d : Kd α} {e base : Nat} {ok : Nat → Prop} {W W1 : World} {v : Value} {xs : List α}
theorem R_own1 (hf : Flat d) (h : d.R e W base ok v xs) : d.R e W base (Own1 v) v xs := ⟨fun k hk => hk.symm, h.2.imp_ (fun _ _ hM => hf _ _ _ _ _ _ _ _ hM)⟩
theorem R_all (h : d.R e W base (Own1 v) v xs) : d.R e W base (fun _ => True) v xs := Kd.R_mono h (fun _ _ => trivial)
theorem R_chg {S : Nat → Prop} (h : d.R e W base (Own1 v) v xs) (hc : Chg S W W1) (hS : ∀ k, v.ownBlock = some k → ¬ S k) : d.R e W1 base (Own1 v) v xs :=
  Kd.R_step h (fun k hk hlt => hc.block k hlt (hS k hk.symm))
end

theorem run_store_op {P : Program} {o : Oper} {ρ : Operand → Value} {x y : Operand} {t : TypeId} {p u : Value} {W w1 : World} (ho : o.op = .store t x y) (hx : ρ x = p) (hy : ρ y = u) (hr : (Instr.storeAt t p u).run P W = .ok () w1) : (execOp ρ o).run P W = .ok .skip w1 := by
  unfold execOp
  simp only [ho, hx, hy, Sem.run_bind, hr, Result.andThen_ok, Sem.run_pure]

/-- x[i] = u, in a row of one's own. -/
theorem row_store {P : Program} {α : Type} {d : Kd α} {e base g n cap : Nat} {W : World} {xs : List α} (hf : Flat d) (h : d.R e W base (Own1 (.slice (some ⟨g, 0, none⟩) n cap)) (.slice (some ⟨g, 0, none⟩) n cap) xs) (i : Nat) (hi : i < n) (t : TypeId) (u : Value) {x' : α}
    {seg : List Value} (hu : u.cells.toList = seg) (hsz : seg.length = d.sz) (ht : (P.info? t).map (·.size) = some d.sz) (h1 : ∀ q ∈ seg, q.oneCell' = true) (hM : ∀ ok, d.M W base ok x' seg) :
    ∃ w1, (Instr.storeAt t (.pointer (some ⟨g, i * d.sz, none⟩)) u).run P W = .ok () w1 ∧ d.R e w1 base (Own1 (.slice (some ⟨g, 0, none⟩) n cap)) (.slice (some ⟨g, 0, none⟩) n cap) (xs.set i x') ∧ Chg (fun k => k = g) W w1 := by
  have hn := (Kd.R_reads' h).1
  have hnc := (Kd.R_reads' h).2.1
  obtain ⟨c, hcl, _, hcc, _⟩ := Kd.R_elem h x' (i : Int) (by omega) (by omega)
  simp only [Int.toNat_natCast] at hcc
  have hseg := Kd.R_seg (okp := fun _ => False) h (i : Int) (by omega) (by omega) (c := c) (seg := seg) (j := 0) hcl (by simpa using hcc) (by omega) (x' := x') (by
    rw [hsz]
    simp only [List.take_zero, List.nil_append, Nat.zero_add]
    rw [List.drop_of_length_le (by omega), List.append_nil]
    exact hM _) (fun _ hk => hk.elim)
  simp only [Int.toNat_natCast, Nat.add_zero] at hseg
  obtain ⟨hrow, hg⟩ := hseg
  refine ⟨W.setCells g (i * d.sz) seg, ?_, hrow, Chg.mono (Chg.of_grownBy hg) (fun k _ hk => by injection hk with hk; exact hk.symm)⟩
  obtain ⟨_, inner, hown, hr⟩ := h
  rcases hown.2 with ⟨hv, _⟩ | ⟨g', cap', cur, hv, hb, hh, hnc', hcm, hcs, _⟩
  · cases hv
  injection hv with ha hb2 hc2
  injection ha with ha
  injection ha with hg'
  subst hg'; subst hc2
  refine run_store_run t u seg hh hu (by rw [ht, hsz]) ?_ h1
  have h2 : i * d.sz + d.sz ≤ n * d.sz := by rw [← Nat.succ_mul]; exact Nat.mul_le_mul_right _ hi
  have h3 : n * d.sz ≤ cap * d.sz := Nat.mul_le_mul_right _ (by omega)
  omega

/-- Elements that lead nowhere may be taken over as one's own. -/
def FlatK {α : Type} (d : Kd α) : Prop := ∀ (w w' : World) (base : Nat) (ok : Nat → Prop) (x : α) (cs : List Value), d.K w x cs → d.M w' base ok x cs
theorem flatK_int (k : IntKind) : FlatK (Kd.int k) := fun _ _ _ _ _ _ h => h
theorem flatK_bool : FlatK Kd.bool := fun _ _ _ _ _ _ h => h

section
variable {P : Program} {α : Type}
/-- append(nil, ys...), ys not empty: a row of one's own. -/
theorem run_clone (d : Kd α) (hK : FlatK d) {W : World} {t ty e : TypeId} {z : Value} {bytes : Nat} (ht : P.underlying t = some (.slice e)) (hinfo : (P.info? e).map (fun i => (i.zero, i.size, i.bytes)) = some (some z, d.sz, bytes)) (hz : z.cells.size = d.sz) (hs0 : 0 < d.sz) (hb0 : 0 < bytes)
    {B : Option Addr} {m c' : Nat} {ys : List α} (hB : d.C W B m ys) (hl : m * bytes ≤ 140737488355328) (hm : 0 < m) :
    ∃ g c1 w1, (Builtin.append_ #[t, t] ty #[.slice none 0 0, .slice B m c']).run P W = .ok (.slice (some ⟨g, 0, none⟩) m c1) w1 ∧ m ≤ c1 ∧ W.heap.size ≤ g ∧ d.R e w1 W.heap.size (Own1 (.slice (some ⟨g, 0, none⟩) m c1)) (.slice (some ⟨g, 0, none⟩) m c1) ys ∧ Below W.heap.size W w1 := by
  obtain ⟨i0, hi, hzz⟩ := Option.map_eq_some_iff.1 hinfo
  simp only [Prod.mk.injEq] at hzz
  obtain ⟨hz0, hz1, hz2⟩ := hzz
  have hlen : m ≤ 140737488355328 := Nat.le_trans (Nat.le_mul_of_pos_right _ hb0) hl
  have hBm := hB.1
  obtain ⟨ad, rfl, _⟩ := hB.2.2 hm
  obtain ⟨news, hnr, hnews⟩ := ReadsRow.inner_ hB
  have hone := Go.Proofs.YtbmklpcheopgoaaOps.one_of_reads d hs0 hnr
  obtain ⟨v', w', hrun, r1, r2, _⟩ := run_append_own (P := P) W W.heap.size t ty e i0 z d.sz bytes ht hi hz0 hz1 hz2 hz hs0 (.slice none 0 0) 0 [] (World.ownsRow_nil W _ e d.sz) ad m c' news (by rw [hnr.1, hB.1]) hnews hone (by simp only [maxLen]; omega) (by simpa using hl) (Nat.le_refl _)
  have hb : Below W.heap.size W w' := ⟨r2.os, r2.tape, r2.output, r2.size, fun k hk => r2.block k hk (by simp [Value.ownBlock])⟩
  have hreps : ∀ ok, Reps (d.M w' W.heap.size ok) d.sz ys news := fun ok => hnr.imp_ fun _ _ h => hK _ _ _ _ _ _ h
  rw [Nat.zero_add, List.nil_append] at r1
  have r1' := r1
  rcases r1'.2 with ⟨h1, h2⟩ | ⟨g, cap, cur, h1, hg, hh, hnc, _⟩
  · omega
  · subst h1
    exact ⟨g, cap, w', hrun, hnc, hg, ⟨fun k hk => hk.symm, news, by rw [hBm]; exact r1, hreps _⟩, hb⟩

/-- append(v, x) in a world where x's cells lie at ad: a row of elements of whatever kind. -/
theorem run_append1 (d : Kd α) {W : World} (base : Nat) {t ty e : TypeId} {z : Value} {bytes : Nat} (ht : P.underlying t = some (.slice e)) (hinfo : (P.info? e).map (fun i => (i.zero, i.size, i.bytes)) = some (some z, d.sz, bytes)) (hz : z.cells.size = d.sz) (hs0 : 0 < d.sz) (hb0 : 0 < bytes)
    (v : Value) (xs : List α) (p : α) (cs : List Value) (ok okp : Nat → Prop) (ad : Addr) (c' : Nat) (hx : ∀ j u, cs[j]? = some u → W.cell? (ad.add j) = some u) (hp : d.M W base okp p cs) (hokp : ∀ k, okp k → ok k ∧ some k ≠ v.ownBlock) (hfresh : ∀ k, W.heap.size ≤ k → ok k)
    (HO : d.R e W base ok v xs) (hbase : base ≤ W.heap.size) (hl : (xs.length + 1) * bytes ≤ 140737488355328) :
    ∃ v1 w1, (Builtin.append_ #[t, t] ty #[v, .slice (some ad) 1 c']).run P W = .ok v1 w1 ∧ d.R e w1 base ok v1 (xs ++ [p]) ∧ W.grownBy w1 v.ownBlock ∧ (v1.ownBlock = v.ownBlock ∨ ∃ b, v1.ownBlock = some b ∧ W.heap.size ≤ b) := by
  obtain ⟨i0, hi, hzz⟩ := Option.map_eq_some_iff.1 hinfo
  simp only [Prod.mk.injEq] at hzz
  obtain ⟨hz0, hz1, hz2⟩ := hzz
  have hlen : xs.length + 1 ≤ 140737488355328 := Nat.le_trans (Nat.le_mul_of_pos_right _ hb0) hl
  obtain ⟨h0, inner, hown, hr⟩ := HO
  have hcl := d.K_len (d.K_of_M hp)
  obtain ⟨v', w', hrun, r1, r2, _, r3⟩ := run_append_own_at (P := P) W base t ty e i0 z d.sz bytes ht hi hz0 hz1 hz2 hz hs0 v xs.length inner hown ad 1 c' cs (by rw [hcl]; omega) hx (d.K_one (d.K_of_M hp)) (by simp only [maxLen]; omega) hl hbase
  have hat : v'.ownBlock = v.ownBlock ∨ ∃ b, v'.ownBlock = some b ∧ W.heap.size ≤ b := by
    rcases r3 with r3 | r3
    · exact .inl r3
    · exact .inr ⟨_, r3, Nat.le_refl _⟩
  exact ⟨v', w', hrun, Kd.R_appended h0 hr hp hokp hfresh r1 r2 hat, r2, hat⟩
/-- .. and no two of its elements lead to one block. -/
theorem run_appendS (d : Kd α) {W : World} (base : Nat) {t ty e : TypeId} {z : Value} {bytes : Nat} (ht : P.underlying t = some (.slice e)) (hinfo : (P.info? e).map (fun i => (i.zero, i.size, i.bytes)) = some (some z, d.sz, bytes)) (hz : z.cells.size = d.sz) (hs0 : 0 < d.sz) (hb0 : 0 < bytes)
    (v : Value) (xs : List α) (p : α) (cs : List Value) (ok okp : Nat → Prop) (ad : Addr) (c' : Nat) (hx : ∀ j u, cs[j]? = some u → W.cell? (ad.add j) = some u) (hp : d.M W base okp p cs) (hokp : ∀ k, okp k → ok k ∧ some k ≠ v.ownBlock) (hfresh : ∀ k, W.heap.size ≤ k → ok k)
    (HO : Kd.S d e W base (fun k => ok k ∧ ¬ okp k) v xs) (hbase : base ≤ W.heap.size) (hl : (xs.length + 1) * bytes ≤ 140737488355328) :
    ∃ v1 w1, (Builtin.append_ #[t, t] ty #[v, .slice (some ad) 1 c']).run P W = .ok v1 w1 ∧ Kd.S d e w1 base ok v1 (xs ++ [p]) ∧ W.grownBy w1 v.ownBlock ∧ (v1.ownBlock = v.ownBlock ∨ ∃ b, v1.ownBlock = some b ∧ W.heap.size ≤ b) := by
  obtain ⟨f, hf, hR⟩ := Kd.S_tag HO xs.length okp (fun _ hk h2 => h2.2 hk)
  obtain ⟨v1, w1, h1, h2, h3, h4⟩ := run_append1 (P := P) (Kd.tag f d) (ty := ty) base ht hinfo hz hs0 hb0 v xs.zipIdx (p, xs.length) cs ok okp ad c' hx (d.M_mono (fun k hk => ⟨hk, hf k hk⟩) hp) hokp hfresh (Kd.R_mono hR (fun _ hk => hk.1)) hbase (by rw [List.length_zipIdx]; exact hl)
  rw [← Kd.zip_snoc] at h2
  exact ⟨v1, w1, h1, ⟨f, h2⟩, h3, h4⟩
section
variable {d : Kd α} {e base : Nat} {ok : Nat → Prop} {w w1 : World} {v : Value} {xs : List α}
theorem S_empty (d : Kd α) {g : Nat} (h : w.heap[g]? = some (.cells #[] e (0, 0))) (hb : base ≤ g) (hok : ok g) : Kd.S d e w base ok (.slice (some ⟨g, 0, none⟩) 0 0) [] :=
  ⟨fun _ => 0, fun k hk => by simp [Value.ownBlock] at hk; subst hk; exact hok, [], ⟨by simp, .inr ⟨g, 0, #[], rfl, hb, h, by simp, by simp [maxLen], by simp, by simp⟩⟩, Reps.none _ _⟩
theorem S_chg {T : Nat → Prop} (h : Kd.S d e w base ok v xs) (hc : Chg T w w1) (hT : ∀ k, ok k → ¬ T k) : Kd.S d e w1 base ok v xs := Kd.S_step h (fun k ho hlt => hc.block k hlt (hT k ho))
theorem S_put {l : Nat} {o o' : Obj} (h : Kd.S d e w base ok v xs) (ho : w.heap[l]? = some o) (hn : o.isCells = false) : Kd.S d e (w.putObj l o') base ok v xs :=
  Kd.S_mono (Kd.S_step (Kd.S_bound h) (fun k hk hlt => by
    obtain ⟨_, _, _, q, _, cells, hc⟩ := hk
    refine World.putObj_heap_other (fun e => ?_)
    subst e
    rw [hc] at ho
    cases ho
    cases hn)) (fun _ hk => hk.1)
theorem R_put {l : Nat} {o o' : Obj} (h : d.R e w base ok v xs) (ho : w.heap[l]? = some o) (hn : o.isCells = false) : d.R e (w.putObj l o') base ok v xs :=
  Kd.R_mono (Kd.R_step (Kd.R_bound h) (fun k hk hlt => by
    obtain ⟨_, _, _, q, _, cells, hc⟩ := hk
    refine World.putObj_heap_other (fun e => ?_)
    subst e
    rw [hc] at ho
    cases ho
    cases hn)) (fun _ hk => hk.1)
end
end
end Go.Proofs.YtbmklpcheopgoaaFlat

namespace Go.Proofs.YtbmklpcheopgoaaIt
open Go Go.RowKit

theorem leaves_collected {F : Fence} {n : Nat} {P : Program} {fn : Func} {tmps : Array Value} {R : Ending → World → Prop} {D : Nat} {V : World} (hd : V.heap[D]? = some (.deferred (some [])))
    (h : ∀ V', Chg (fun b => b = D) V V' → ∃ v, (results fn tmps).run P V' = .ok v V' ∧ R (.returned v) V') : LeavesInM F n P fn tmps R [{ target := .collected D, args := #[] }] .returning V := by
  obtain ⟨v, hv, hr⟩ := h _ (Chg.putSelf V D _)
  refine ⟨by simp, .inl ⟨D, _, rfl, run_takeDeferred hd, ?_⟩⟩
  exact ⟨v, hv, hr⟩

theorem op_yield {F : Fence} {n : Nat} {P : Program} {o : Oper} {a : Act} {w : World} {K : Act → World → Prop} {Q : Exit → Act → World → Prop} {x : Operand} {args : Array Operand} {ts : Array TypeId} {l : Nat} {R : Ending → World → Prop}
    (ho : o.op = .call { callee := .value x, args := args, argTypes := ts }) (hx : a.eval x = .func (.yield l) #[] #[])
    {vs : Array Value} (hvs : args.map a.eval = vs) (hY : YieldAt F (n - 1) P l vs w R) (hF : F.depth = none) (hfn : ∀ f, F.fn f) (h : ∀ e w', R e w' → ∃ v, e = .returned v ∧ K (a.put o.dst v) w') : Oper.wpIn F n P o a w K Q := by
  subst hvs
  obtain ⟨fn, tmps, assign, body, hy, hR⟩ := hY
  have hargs : (args.map a.eval) = (args.map a.eval) := rfl
  unfold Oper.wpIn
  refine ⟨fun f _ => hfn f, ?_⟩
  rw [Oper.semAt_plain F _ _ (by rw [ho]; intro c hc'; cases hc')]
  simp only [execOp, ho, resolve, hx]
  simp [go_sem, invoke, hy, Result.andThen, Sem.run_bind]
  refine ⟨fun hh => (by rw [hF] at hh; cases hh), RoundIn.mono hR fun e w' hr => ?_⟩
  obtain ⟨v, rfl, hk⟩ := h _ _ hr
  exact hk

theorem run_app {P : Program} {o : Oper} {ρ : Operand → Value} {s x : Operand} {t : TypeId} {v y v1 : Value} {W w1 : World} (ho : o.op = .call { callee := .builtin .append, args := #[s, x], argTypes := #[t, t] }) (hs : ρ s = v) (hx : ρ x = y)
    (hr : (Builtin.append_ #[t, t] o.type #[v, y]).run P W = .ok v1 w1) : (execOp ρ o).run P W = .ok (.value v1) w1 := by
  simp only [execOp, ho, resolve, invoke, builtin, Sem.run_bind, Sem.run_pure, Result.andThen_ok, List.map_toArray, List.map_cons, List.map_nil, hs, hx, hr]
end Go.Proofs.YtbmklpcheopgoaaIt

namespace Go.Proofs.Ytbmklpcheopgoaa.H
open Go.RowKit Go.Shelf Go.Proofs.YtbmklpcheopgoaaW.PrintWords Go.Proofs.YtbmklpcheopgoaaW.PrintLast Go.Proofs.YtbmklpcheopgoaaW.PrintMore Go.Proofs.YtbmklpcheopgoaaIt Go.Proofs.YtbmklpcheopgoaaOps
set_option linter.unnecessarySimpa false
set_option linter.unusedVariables false
set_option linter.unusedSimpArgs false
attribute [local go_sem] Oper.semAt_some wide_depth wide_fn World.cell?_alloc_some

/-- A contour's points. -/
def contourOf (pts : List S33) (c : Int × Int) : List S33 := (pts.drop c.1.toNat).take (c.2.toNat - c.1.toNat)

theorem contours_calls (n : Nat) (A0 A1 : Option Addr) (l0 c0 l1 c1 : Nat) (w : World) :
    CallsIn Fence.wide n Try.prog 41 #[.agg #[.slice A0 l0 c0, .slice A1 l1 c1]] w fun e w' => e = .returned (.func (.func 54) #[] #[.pointer (some ⟨w.heap.size, 0, none⟩)]) ∧
      w' = w.alloc (.cells #[.slice A0 l0 c0, .slice A1 l1 c1] 25) := by
  refine callsIn_of_wp Try.func41 rfl trivial ?_ rfl
  simp only [Try.ntmps41, List.size_toArray, List.length_cons, List.length_nil, Nat.reduceAdd, Nat.reduceSub, Array.replicate_succ, Array.replicate_zero, List.push_toArray, List.append_toArray, List.nil_append, List.cons_append]
  gi_wp2
  go_ret
  exact ⟨rfl, rfl⟩

/-- A cut lies within the points. -/
theorem cutsF_mem (es : List Int) (n : Int) : ∀ (b : Int) (k : Nat) (c : Int × Int), (cutsF b es n)[k]? = some c → b ≤ c.1 ∧ c.1 < c.2 ∧ c.2 ≤ n := by
  induction es with
  | nil => intro b k c h; simp [cutsF] at h
  | cons e es ih =>
    intro b k c h
    unfold cutsF at h
    split at h
    · simp at h
    · rename_i hne
      cases k with
      | zero => simp at h; subst h; simp; omega
      | succ k =>
        have := ih (e + 1) k c (by simpa using h)
        omega
theorem C_chg {α : Type} {d : Kd α} (hflat : ∀ (w w' : World) x cs, d.K w x cs → d.K w' x cs) (hs : 0 < d.sz) {S : Nat → Prop} {w W : World} {A : Option Addr} {n : Nat} {xs : List α} (h : d.C w A n xs) (hc : Chg S w W) (hA : ∀ b, b < w.heap.size → BlkOf A b → ¬ S b) : d.C W A n xs := by
  refine ⟨h.1, h.2.1, fun hn => ?_⟩
  obtain ⟨ad, e, hx⟩ := h.2.2 hn
  refine ⟨ad, e, fun i x hi => ?_⟩
  obtain ⟨cs, h1, h2, h3⟩ := hx i x hi
  refine ⟨cs, h1, hflat _ _ _ _ h2, fun j u hu => ?_⟩
  have hx := h3 j u hu
  have hb := World.block_lt_of_cell? w _ hx
  exact (hc.cell hb (hA _ hb ⟨ad, e, add_block _ _⟩)).trans hx
theorem flat_point (w w' : World) (x : S33) (cs : List Value) (h : k33.K w x cs) : k33.K w' x cs := by rw [k33_open h]; exact k33_mk _ _

def contTmps (l B Y k X : Nat) (A0 A1 : Option Addr) (n0 c0 n1 c1 : Nat) (c : Int × Int) (f : Nat → Value) : Array Value :=
  #[.func (.yield l) #[] #[], .pointer (some ⟨B, 0, none⟩), .pointer (some ⟨Y, 0, none⟩), .int .i64 k, .pointer (some ⟨X, 0, none⟩), .pointer (some ⟨B, 1, none⟩), .slice A1 n1 c1, .pointer (some ⟨B, 0, none⟩), .slice A0 n0 c0, .int .i64 n0,
    .func (.func 55) #[] #[.pointer (some ⟨Y + 1, 0, none⟩), .pointer (some ⟨Y + 1 + 1, 0, none⟩)], .int .i64 k, .agg #[.int .i64 c.1, .int .i64 c.2], f 13, f 14, f 15, f 16, f 17, f 18, f 19, f 20, f 21, f 22, f 23, f 24]

set_option maxRecDepth 100000 in
set_option maxHeartbeats 2000000 in
theorem contours_it (w : World) (B : Nat) (A0 A1 : Option Addr) (c0 c1 : Nat) (pts : List S33) (es : List Int) (hb : w.heap[B]? = some (.cells #[.slice A0 pts.length c0, .slice A1 es.length c1] 25 (0, 0)))
    (hp : Kd.C k33 w A0 pts.length pts) (hes : (Kd.int .i64).C w A1 es.length es) (hc0 : pts.length ≤ c0) (hlim : pts.length ≤ 1000000) :
    ItC Try.prog 54 #[.pointer (some ⟨B, 0, none⟩)] (cutsL es pts.length).length
      (fun k W args => ∃ c A cap, (cutsL es pts.length)[k]? = some c ∧ args = #[.int .i64 k, .slice A (contourOf pts c).length cap] ∧ (contourOf pts c).length ≤ cap ∧ Kd.C k33 W A (contourOf pts c).length (contourOf pts c) ∧ Kd.R k33 33 W w.heap.size (Go.Proofs.YtbmklpcheopgoaaFlat.Own1 (.slice A (contourOf pts c).length cap)) (.slice A (contourOf pts c).length cap) (contourOf pts c))
      (fun args b => ∃ v ad n c, args = #[v, .slice (some ad) n c] ∧ b = ad.block)
      (fun b => (0 < pts.length ∧ BlkOf A0 b) ∨ (0 < es.length ∧ BlkOf A1 b) ∨ b = B) w := by
  intro l J Jx own0 W hW hlw hlW hJ hJx hown hY h0
  have hB : B < w.heap.size := (Array.getElem?_eq_some_iff.1 hb).1
  have hu := Try.underlying25
  refine (callsIn_wide (n := 0)).1 (callsIn_of_wp_marks Try.func54 rfl trivial ?_ rfl)
  simp only [Try.ntmps54, List.size_toArray, List.length_cons, List.length_nil, Nat.reduceAdd, Nat.reduceSub, Array.replicate_succ, Array.replicate_zero, List.push_toArray, List.append_toArray, List.nil_append, List.cons_append]
  have hbW : W.heap[B]? = some (.cells #[.slice A0 pts.length c0, .slice A1 es.length c1] 25 (0, 0)) := (hW.block B hB).trans hb
  have e1 := blk_cell hbW 0
  have e2 := blk_cell hbW 1
  simp at e1 e2
  gi_wp2
  refine CallsIn.mono (cuts_calls 0 _ _ _ _ _) ?_
  rintro e w' ⟨rfl, rfl⟩
  gi_wp2
  generalize hV : World.alloc (World.alloc (World.alloc W _) _) _ = V
  have hVs : V.heap.size = W.heap.size + 1 + 1 + 1 := by rw [← hV]; simp
  have hbV : Below W.heap.size W V := by rw [← hV]; exact (((Below.refl _ W).alloc (Nat.le_refl _) _).alloc (by simp) _).alloc (by simp; omega) _
  have hY1 : V.heap[W.heap.size]? = some (.cells #[.func (.yield l) #[] #[]] 98 (0, 0)) := by rw [← hV]; exact blk_alloc (blk_alloc (blk_new _ _) _) _
  have hq1 : V.heap[W.heap.size + 1]? = some (.cells #[.slice A1 es.length c1] 23 (0, 0)) := by
    rw [← hV]; refine blk_alloc ?_ _; have := blk_new (W.alloc (.cells #[.func (.yield l) #[] #[]] 98)) (.cells #[.slice A1 es.length c1] 23); rwa [World.size_alloc] at this
  have hq2 : V.heap[W.heap.size + 1 + 1]? = some (.cells #[.int .i64 pts.length] 3 (0, 0)) := by
    rw [← hV]; have := blk_new ((W.alloc (.cells #[.func (.yield l) #[] #[]] 98)).alloc (.cells #[.slice A1 es.length c1] 23)) (.cells #[.int .i64 pts.length] 3); rwa [World.size_alloc, World.size_alloc] at this
  have hesW : (Kd.int .i64).C V A1 es.length es := Kd.C_below (Kd.C_below hes hW) hbV
  have hpV : Kd.C k33 V A0 pts.length pts := Kd.C_below (Kd.C_below hp hW) hbV
  have hit := cuts_it V A1 c1 es pts.length (by have := Kd.C_max hp; omega) (W.heap.size + 1) (W.heap.size + 1 + 1) (blk_cell hq1 0) (blk_cell hq2 0) hesW
  clear e1 e2
  have hlV : l < V.heap.size := by omega
  refine range_outer hit (by rfl) (fun args w => by simp [go_sem])
    (fun k own V' => (own l ∧ ¬ own W.heap.size ∧ V'.heap[W.heap.size]? = some (.cells #[.func (.yield l) #[] #[]] 98 (0, 0))) ∧ ∃ u, J k u V' ∧ (∀ b, u b → own b) ∧ Since l own0 W u (fun b => W.heap.size ≤ b) V')
    (fun c k own V' => c = .ret ∧ ∃ u, Jx k u V' ∧ (∀ b, u b → own b ∧ b < V'.heap.size))
    (fun b => own0 b ∨ b = l) ?_ ?_ ?_ ?_ ?_
    (fun k own a' V' => ∃ (c : Int × Int) (X : Nat), (cutsL es pts.length)[k]? = some c ∧ a' = ⟨contTmps l B W.heap.size k X A0 A1 pts.length c0 es.length c1 c (fun _ => undef), []⟩ ∧ V'.heap[X]? = some (.cells #[.int .i64 c.1, .int .i64 c.2] 64 (0, 0))) ?_ ?_ ?_ ?_ ?_
  · rintro k own V1 V2 ⟨⟨hl, hny, hy⟩, u, hj, hu, hs⟩ hc
    refine ⟨⟨hl, hny, hc.heap hy (fun h => by omega)⟩, u, hJ _ _ _ _ hj (hc.mono fun b _ hb => ⟨by omega, fun h => hb.2 (hu b h)⟩), hu, hs.own (hc.mono fun b _ hb => by omega)⟩
  · rintro c k own V1 V2 ⟨rfl, u, hj, hu⟩ hc
    exact ⟨rfl, u, hJx _ _ _ _ hj (hc.mono fun b _ hb => ⟨by omega, fun h => hb.2 (hu b h).1⟩), fun b h => ⟨(hu b h).1, Nat.lt_of_lt_of_le (hu b h).2 hc.size⟩⟩
  · rintro k W args ⟨c, _, rfl⟩
    rfl
  · rintro b (h | rfl)
    · have := hown b h
      refine ⟨by omega, fun hr => ?_⟩
      rcases hr with hr | hr | hr
      · exact this.2 (.inr (.inl hr))
      · omega
      · omega
    · refine ⟨by omega, fun hr => ?_⟩
      rcases hr with ⟨h0, ad, rfl, hr⟩ | hr | hr
      · obtain ⟨ad', e, hx⟩ := Kd.at_int hes 0 (by omega) (by omega)
        cases e
        have := World.block_lt_of_cell? w _ hx
        rw [add_block] at this
        omega
      · omega
      · omega
  · refine ⟨⟨.inr rfl, fun h => by
      rcases h with h | h
      · have := (hown _ h).1; omega
      · omega, hY1⟩, own0, hJ _ _ _ _ h0 ((Chg.of_below hbV).mono fun b _ hb => ⟨hb, fun h => by have := (hown b h).1; omega⟩), fun b h => .inl h, (Since.start fun b h => (hown b h).1).own (Chg.of_below hbV)⟩
  · rintro lc k own a' V1 o o' hlc ⟨c, X, hk, ha, hX⟩ ho hcells
    refine ⟨c, X, hk, ha, ?_⟩
    rw [World.putObj_heap_other]
    · exact hX
    · rintro rfl
      rw [hX] at ho
      cases ho
      simp [Obj.isCells] at hcells
  · rintro lc n k own args V1 hlc ⟨⟨hl, hny, hy⟩, u, hj, hu, hs⟩ how hlt hno hk ⟨c, hkc, rfl⟩ _
    gi_wp2
    refine ⟨own, GrowG.refl _ _ _, fun b hb => by have := how b hb; simp; omega, (Chg.refl _ _).alloc _, ⟨⟨hl, hny, blk_alloc hy _⟩, u, hJ _ _ _ _ hj ((Chg.refl _ _).alloc _), hu, hs.own ((Chg.refl _ _).alloc _)⟩, c, V1.heap.size, hkc, rfl, blk_new _ _⟩
  · rintro lc n k own a' V1 hlc ⟨⟨hl, hny, hy⟩, u, hj, hu, hs⟩ how ⟨r, hr⟩ hno hk ⟨c, X, hkc, rfl, hX⟩
    have hrd := hs.reads hW hlw hown (fun b hb h => by have := hW.size; omega)
    have hbV1 : V1.heap[B]? = some (.cells #[.slice A0 pts.length c0, .slice A1 es.length c1] 25 (0, 0)) := hrd.heap hb (fun h => h (.inr (.inr rfl)))
    have hpos : 0 < pts.length := by have := cutsF_mem es pts.length 0 k c hkc; omega
    have hpV1 : Kd.C k33 V1 A0 pts.length pts := C_chg flat_point (by decide) hp hrd (fun b _ hb h => h (.inl ⟨hpos, hb⟩))
    obtain ⟨m1, m2, m3⟩ := cutsF_mem es pts.length 0 k c hkc
    obtain ⟨cs, ce⟩ := c
    simp only at m1 m2 m3 hX
    obtain ⟨s, rfl⟩ : ∃ s : Nat, cs = s := ⟨cs.toNat, by omega⟩
    obtain ⟨e, rfl⟩ : ∃ e : Nat, ce = e := ⟨ce.toNat, by omega⟩
    obtain ⟨ad, rfl⟩ : ∃ ad, A0 = some ad := by obtain ⟨ad, h, _⟩ := hpV1.2.2 (by omega); exact ⟨ad, h⟩
    have hA := Kd.C_drop (c := c0) hpV1 (show s ≤ pts.length by omega) hc0
    rw [if_neg (by omega)] at hA
    have hlen0 : (pts.drop s).length = pts.length - s := List.length_drop
    have hB := Kd.C_take hA (show e - s ≤ (pts.drop s).length by omega)
    have hlen : ((pts.drop s).take (e - s)).length = e - s := by rw [List.length_take]; omega
    rw [hlen] at hB
    have hcont : contourOf pts ((s : Int), (e : Int)) = (pts.drop s).take (e - s) := by simp [contourOf]
    obtain ⟨g, cN, w1, hrun, hcN, hg, hRN, hbN⟩ := Go.Proofs.YtbmklpcheopgoaaFlat.run_clone (P := Try.prog) k33 (fun w w' base ok x cs h => by rw [k33_open h]; exact k33_mkM _ _ _ _) (W := V1.drew) (t := 22) (ty := 22) (c' := c0 - s) Try.underlying22 info33 rfl (by decide) (by omega) (Kd.C_drew hB) (by omega) (by omega)
    have hCN : Kd.C k33 w1 (some ⟨g, 0, none⟩) (e - s) ((pts.drop s).take (e - s)) := by have := (Kd.R_reads' hRN).2.2; rwa [hlen] at this
    have hg' : V1.heap.size ≤ g := hg
    have hNb : Chg (fun _ => False) V1 w1 := by
      have := Chg.of_fresh (S := fun _ => False) (a := V1.drew) hbN
      exact ⟨this.os, this.tape, this.output, this.size, this.block⟩
    have hJ1 : J k u w1 := hJ _ _ _ _ hj (hNb.mono fun _ _ h => h.elim)
    have hs1 : Since l own0 W u (fun b => W.heap.size ≤ b) w1 := hs.own (hNb.mono fun _ _ h => h.elim)
    have hYd := hY k u w1 #[.int .i64 k, .slice (some ⟨g, 0, none⟩) (e - s) cN] hk hJ1 hs1.chg.size hs1.lt ⟨((s : Int), (e : Int)), some ⟨g, 0, none⟩, cN, hkc, by rw [hcont, hlen], by rw [hcont, hlen]; exact hcN, by rw [hcont, hlen]; exact hCN, by rw [hcont, hlen]; exact Kd.R_lower hRN (by have := hs.chg.size; have := hW.size; show w.heap.size ≤ V1.heap.size; omega)⟩ (by
      rintro b ⟨v, a0, n0, c0', he, rfl⟩
      simp at he
      obtain ⟨_, rfl, _⟩ := he
      have := hs.chg.size
      exact ⟨by simpa using Nat.le_trans this hg', fun h => by have h2 := hs.lt _ h; simp at h2; omega⟩)
    have hyc0 : V1.drew.cell? ⟨W.heap.size, 0, none⟩ = some (.func (.yield l) #[] #[]) := blk_cell hy 0
    have hyc1 : w1.cell? ⟨W.heap.size, 0, none⟩ = some (.func (.yield l) #[] #[]) := blk_cell (hNb.heap hy (fun h => h)) 0
    have hbc : V1.drew.cell? ⟨B, 0, none⟩ = some (.slice (some ad) pts.length c0) := blk_cell hbV1 0
    have hx0 : V1.drew.cell? ⟨X, 0, none⟩ = some (.int .i64 s) := blk_cell hX 0
    have hx1 : V1.drew.cell? ⟨X, 1, none⟩ = some (.int .i64 e) := blk_cell hX 1
    have hus := Try.underlying22
    have hse : s ≤ e := by omega
    have hel : e ≤ c0 := by omega
    have hsc : ¬ (c0 = s) := by omega
    have hsc2 : ¬ (c0 - s = 0) := by omega
    obtain ⟨Post, hPost⟩ : ∃ Post : Bool → World → Prop, Post = fun r W' => ∃ own', GrowG (fun b => b = g) u own' w1 ∧ (∀ b, own' b → b < W'.heap.size) ∧ Chg (fun b => u b ∨ b = l ∨ b = g) w1 W' ∧ ((r = true ∧ J (k + 1) own' W') ∨ (r = false ∧ Jx (k + 1) own' W')) := ⟨_, rfl⟩
    have HR := Lib.hid hrun
    clear hrun
    gi_wp2
    unfold contTmps
    refine Go.Proofs.YtbmklpcheopgoaaReg.regIn_inv (by rfl) [0, 1, 2, 3, 4, 5, 6, 7, 8, 9, 10, 11] (by kernel_rfl) (by kernel_rfl)
      (fun lst a W' => ∃ (b0 b1 b2 b3 b4 b5 b6 b7 b8 b9 b10 b11 r : Bool), lst = #[b0, b1, b2, b3, b4, b5, b6, b7, b8, b9, b10, b11] ∧ a = ⟨#[.func (.yield l) #[] #[], .pointer (some ⟨B, 0, none⟩), .pointer (some ⟨W.heap.size, 0, none⟩), .int .i64 k, .pointer (some ⟨X, 0, none⟩), .pointer (some ⟨B, 1, none⟩), .slice A1 es.length c1, .pointer (some ⟨B, 0, none⟩), .slice (some ad) pts.length c0, .int .i64 pts.length, .func (.func 55) #[] #[.pointer (some ⟨W.heap.size + 1, 0, none⟩), .pointer (some ⟨W.heap.size + 1 + 1, 0, none⟩)], .int .i64 k, .agg #[.int .i64 s, .int .i64 e], if b0 = true then .func (.yield l) #[] #[] else undef, if b1 = true then .int .i64 k else undef, if b2 = true then .pointer (some ⟨B, 0, none⟩) else undef, if b3 = true then .slice (some ad) pts.length c0 else undef, if b4 = true then .pointer (some ⟨X, 0, none⟩) else undef, if b5 = true then .int .i64 s else undef, if b6 = true then .pointer (some ⟨X, 1, none⟩) else undef, if b7 = true then .int .i64 e else undef, if b8 = true then .slice (some (ad.add (s * 3))) (e - s) (c0 - s) else undef, if b9 = true then .slice (some ⟨g, 0, none⟩) (e - s) cN else undef, if b10 = true then .bool r else undef, if b11 = true then .bool (!r) else undef], []⟩ ∧ (b9 = true → b3 = true ∧ b5 = true ∧ b7 = true ∧ b8 = true) ∧ (b8 = true → b3 = true ∧ b5 = true ∧ b7 = true) ∧ (b10 = true → b0 = true ∧ b1 = true ∧ b9 = true) ∧
        (b9 = false → W' = V1.drew) ∧ (b9 = true → b10 = false → W' = w1) ∧ (b10 = true → Post r W') ∧ (b11 = true → b10 = true)) ?_ ?_ ?_ ?_
    · rintro lst a W' ⟨b0, b1, b2, b3, b4, b5, b6, b7, b8, b9, b10, b11, r, rfl, _⟩
      rfl
    · exact ⟨false, false, false, false, false, false, false, false, false, false, false, false, false, rfl, rfl, by simp, by simp, by simp, fun _ => rfl, by simp, by simp, by simp⟩
    · rintro lst a W' i o ⟨b0, b1, b2, b3, b4, b5, b6, b7, b8, b9, b10, b11, r, rfl, rfl, q1, q2, q3, q4, q5, q6, q7⟩ ho hf hd K hK
      have hi : i < 12 := (Array.getElem?_eq_some_iff.1 ho).1
      have ho2 := ho
      rcases (show i = 0 ∨ i = 1 ∨ i = 2 ∨ i = 3 ∨ i = 4 ∨ i = 5 ∨ i = 6 ∨ i = 7 ∨ i = 8 ∨ i = 9 ∨ i = 10 ∨ i = 11 by omega) with rfl | rfl | rfl | rfl | rfl | rfl | rfl | rfl | rfl | rfl | rfl | rfl
      · simp only [List.getElem?_toArray, List.getElem?_cons_succ, List.getElem?_cons_zero, Option.some.injEq] at ho
        subst ho
        replace hf : b0 = false := hf
        subst hf
        have hcell : W'.cell? ⟨W.heap.size, 0, none⟩ = some (.func (.yield l) #[] #[]) := by
          cases hb9 : b9 with
          | false => rw [q4 hb9]; exact hyc0
          | true =>
            have hb10 : b10 = false := by cases b10 <;> simp_all
            rw [q5 hb9 hb10]; exact hyc1
        refine Go.Proofs.YtbmklpcheopgoaaReg.opIn_val ho2 rfl (fun _ => trivial) (fun c h => by cases h) (v := .func (.yield l) #[] #[]) (w1 := W') ?_ (hK _ _ ⟨true, b1, b2, b3, b4, b5, b6, b7, b8, b9, b10, b11, r, rfl, rfl, by first | exact q1 | (intro h; cases h; done) | (intro h; have := q1 h; simpa using this) | (intros; simp_all), by first | exact q2 | (intro h; cases h; done) | (intro h; have := q2 h; simpa using this) | (intros; simp_all), by first | exact q3 | (intro h; cases h; done) | (intro h; have := q3 h; simpa using this) | (intros; simp_all), by first | exact q4 | (intro h; cases h; done) | (intro h; have := q4 h; simpa using this) | (intros; simp_all), by first | exact q5 | (intro h; cases h; done) | (intro h; have := q5 h; simpa using this) | (intros; simp_all), by first | exact q6 | (intro h; cases h; done) | (intro h; have := q6 h; simpa using this) | (intros; simp_all), by first | exact q7 | (intro h; rfl) | (intro h; cases h; done) | (intros; simp_all)⟩)
        simp [go_sem, hcell]
      · simp only [List.getElem?_toArray, List.getElem?_cons_succ, List.getElem?_cons_zero, Option.some.injEq] at ho
        subst ho
        replace hf : b1 = false := hf
        subst hf
        refine Go.Proofs.YtbmklpcheopgoaaReg.opIn_val ho2 rfl (fun _ => trivial) (fun c h => by cases h) (v := .int .i64 k) (w1 := W') ?_ (hK _ _ ⟨b0, true, b2, b3, b4, b5, b6, b7, b8, b9, b10, b11, r, rfl, rfl, by first | exact q1 | (intro h; cases h; done) | (intro h; have := q1 h; simpa using this) | (intros; simp_all), by first | exact q2 | (intro h; cases h; done) | (intro h; have := q2 h; simpa using this) | (intros; simp_all), by first | exact q3 | (intro h; cases h; done) | (intro h; have := q3 h; simpa using this) | (intros; simp_all), by first | exact q4 | (intro h; cases h; done) | (intro h; have := q4 h; simpa using this) | (intros; simp_all), by first | exact q5 | (intro h; cases h; done) | (intro h; have := q5 h; simpa using this) | (intros; simp_all), by first | exact q6 | (intro h; cases h; done) | (intro h; have := q6 h; simpa using this) | (intros; simp_all), by first | exact q7 | (intro h; rfl) | (intro h; cases h; done) | (intros; simp_all)⟩)
        simp [go_sem]
      · simp only [List.getElem?_toArray, List.getElem?_cons_succ, List.getElem?_cons_zero, Option.some.injEq] at ho
        subst ho
        replace hf : b2 = false := hf
        subst hf
        refine Go.Proofs.YtbmklpcheopgoaaReg.opIn_val ho2 rfl (fun _ => trivial) (fun c h => by cases h) (v := .pointer (some ⟨B, 0, none⟩)) (w1 := W') ?_ (hK _ _ ⟨b0, b1, true, b3, b4, b5, b6, b7, b8, b9, b10, b11, r, rfl, rfl, by first | exact q1 | (intro h; cases h; done) | (intro h; have := q1 h; simpa using this) | (intros; simp_all), by first | exact q2 | (intro h; cases h; done) | (intro h; have := q2 h; simpa using this) | (intros; simp_all), by first | exact q3 | (intro h; cases h; done) | (intro h; have := q3 h; simpa using this) | (intros; simp_all), by first | exact q4 | (intro h; cases h; done) | (intro h; have := q4 h; simpa using this) | (intros; simp_all), by first | exact q5 | (intro h; cases h; done) | (intro h; have := q5 h; simpa using this) | (intros; simp_all), by first | exact q6 | (intro h; cases h; done) | (intro h; have := q6 h; simpa using this) | (intros; simp_all), by first | exact q7 | (intro h; rfl) | (intro h; cases h; done) | (intros; simp_all)⟩)
        simp [go_sem]
      · simp only [List.getElem?_toArray, List.getElem?_cons_succ, List.getElem?_cons_zero, Option.some.injEq] at ho
        subst ho
        replace hf : b3 = false := hf
        subst hf
        have d2 : b2 = true := hd ⟨2, .data⟩ (by simp) rfl
        subst d2
        have h9 : b9 = false := by cases b9 <;> simp_all
        subst h9
        obtain rfl := q4 rfl
        refine Go.Proofs.YtbmklpcheopgoaaReg.opIn_val ho2 rfl (fun _ => trivial) (fun c h => by cases h) (v := .slice (some ad) pts.length c0) (w1 := V1.drew) ?_ (hK _ _ ⟨b0, b1, true, true, b4, b5, b6, b7, b8, false, b10, b11, r, rfl, rfl, by first | exact q1 | (intro h; cases h; done) | (intro h; have := q1 h; simpa using this) | (intros; simp_all), by first | exact q2 | (intro h; cases h; done) | (intro h; have := q2 h; simpa using this) | (intros; simp_all), by first | exact q3 | (intro h; cases h; done) | (intro h; have := q3 h; simpa using this) | (intros; simp_all), by first | exact q4 | (intro h; cases h; done) | (intro h; have := q4 h; simpa using this) | (intros; simp_all), by first | exact q5 | (intro h; cases h; done) | (intro h; have := q5 h; simpa using this) | (intros; simp_all), by first | exact q6 | (intro h; cases h; done) | (intro h; have := q6 h; simpa using this) | (intros; simp_all), by first | exact q7 | (intro h; rfl) | (intro h; cases h; done) | (intros; simp_all)⟩)
        simp [go_sem, hbc, hx0, hx1]
      · simp only [List.getElem?_toArray, List.getElem?_cons_succ, List.getElem?_cons_zero, Option.some.injEq] at ho
        subst ho
        replace hf : b4 = false := hf
        subst hf
        refine Go.Proofs.YtbmklpcheopgoaaReg.opIn_val ho2 rfl (fun _ => trivial) (fun c h => by cases h) (v := .pointer (some ⟨X, 0, none⟩)) (w1 := W') ?_ (hK _ _ ⟨b0, b1, b2, b3, true, b5, b6, b7, b8, b9, b10, b11, r, rfl, rfl, by first | exact q1 | (intro h; cases h; done) | (intro h; have := q1 h; simpa using this) | (intros; simp_all), by first | exact q2 | (intro h; cases h; done) | (intro h; have := q2 h; simpa using this) | (intros; simp_all), by first | exact q3 | (intro h; cases h; done) | (intro h; have := q3 h; simpa using this) | (intros; simp_all), by first | exact q4 | (intro h; cases h; done) | (intro h; have := q4 h; simpa using this) | (intros; simp_all), by first | exact q5 | (intro h; cases h; done) | (intro h; have := q5 h; simpa using this) | (intros; simp_all), by first | exact q6 | (intro h; cases h; done) | (intro h; have := q6 h; simpa using this) | (intros; simp_all), by first | exact q7 | (intro h; rfl) | (intro h; cases h; done) | (intros; simp_all)⟩)
        simp [go_sem]
      · simp only [List.getElem?_toArray, List.getElem?_cons_succ, List.getElem?_cons_zero, Option.some.injEq] at ho
        subst ho
        replace hf : b5 = false := hf
        subst hf
        have d4 : b4 = true := hd ⟨4, .data⟩ (by simp) rfl
        subst d4
        have h9 : b9 = false := by cases b9 <;> simp_all
        subst h9
        obtain rfl := q4 rfl
        refine Go.Proofs.YtbmklpcheopgoaaReg.opIn_val ho2 rfl (fun _ => trivial) (fun c h => by cases h) (v := .int .i64 s) (w1 := V1.drew) ?_ (hK _ _ ⟨b0, b1, b2, b3, true, true, b6, b7, b8, false, b10, b11, r, rfl, rfl, by first | exact q1 | (intro h; cases h; done) | (intro h; have := q1 h; simpa using this) | (intros; simp_all), by first | exact q2 | (intro h; cases h; done) | (intro h; have := q2 h; simpa using this) | (intros; simp_all), by first | exact q3 | (intro h; cases h; done) | (intro h; have := q3 h; simpa using this) | (intros; simp_all), by first | exact q4 | (intro h; cases h; done) | (intro h; have := q4 h; simpa using this) | (intros; simp_all), by first | exact q5 | (intro h; cases h; done) | (intro h; have := q5 h; simpa using this) | (intros; simp_all), by first | exact q6 | (intro h; cases h; done) | (intro h; have := q6 h; simpa using this) | (intros; simp_all), by first | exact q7 | (intro h; rfl) | (intro h; cases h; done) | (intros; simp_all)⟩)
        simp [go_sem, hbc, hx0, hx1]
      · simp only [List.getElem?_toArray, List.getElem?_cons_succ, List.getElem?_cons_zero, Option.some.injEq] at ho
        subst ho
        replace hf : b6 = false := hf
        subst hf
        refine Go.Proofs.YtbmklpcheopgoaaReg.opIn_val ho2 rfl (fun _ => trivial) (fun c h => by cases h) (v := .pointer (some ⟨X, 1, none⟩)) (w1 := W') ?_ (hK _ _ ⟨b0, b1, b2, b3, b4, b5, true, b7, b8, b9, b10, b11, r, rfl, rfl, by first | exact q1 | (intro h; cases h; done) | (intro h; have := q1 h; simpa using this) | (intros; simp_all), by first | exact q2 | (intro h; cases h; done) | (intro h; have := q2 h; simpa using this) | (intros; simp_all), by first | exact q3 | (intro h; cases h; done) | (intro h; have := q3 h; simpa using this) | (intros; simp_all), by first | exact q4 | (intro h; cases h; done) | (intro h; have := q4 h; simpa using this) | (intros; simp_all), by first | exact q5 | (intro h; cases h; done) | (intro h; have := q5 h; simpa using this) | (intros; simp_all), by first | exact q6 | (intro h; cases h; done) | (intro h; have := q6 h; simpa using this) | (intros; simp_all), by first | exact q7 | (intro h; rfl) | (intro h; cases h; done) | (intros; simp_all)⟩)
        simp [go_sem]
      · simp only [List.getElem?_toArray, List.getElem?_cons_succ, List.getElem?_cons_zero, Option.some.injEq] at ho
        subst ho
        replace hf : b7 = false := hf
        subst hf
        have d6 : b6 = true := hd ⟨6, .data⟩ (by simp) rfl
        subst d6
        have h9 : b9 = false := by cases b9 <;> simp_all
        subst h9
        obtain rfl := q4 rfl
        refine Go.Proofs.YtbmklpcheopgoaaReg.opIn_val ho2 rfl (fun _ => trivial) (fun c h => by cases h) (v := .int .i64 e) (w1 := V1.drew) ?_ (hK _ _ ⟨b0, b1, b2, b3, b4, b5, true, true, b8, false, b10, b11, r, rfl, rfl, by first | exact q1 | (intro h; cases h; done) | (intro h; have := q1 h; simpa using this) | (intros; simp_all), by first | exact q2 | (intro h; cases h; done) | (intro h; have := q2 h; simpa using this) | (intros; simp_all), by first | exact q3 | (intro h; cases h; done) | (intro h; have := q3 h; simpa using this) | (intros; simp_all), by first | exact q4 | (intro h; cases h; done) | (intro h; have := q4 h; simpa using this) | (intros; simp_all), by first | exact q5 | (intro h; cases h; done) | (intro h; have := q5 h; simpa using this) | (intros; simp_all), by first | exact q6 | (intro h; cases h; done) | (intro h; have := q6 h; simpa using this) | (intros; simp_all), by first | exact q7 | (intro h; rfl) | (intro h; cases h; done) | (intros; simp_all)⟩)
        simp [go_sem, hbc, hx0, hx1]
      · simp only [List.getElem?_toArray, List.getElem?_cons_succ, List.getElem?_cons_zero, Option.some.injEq] at ho
        subst ho
        replace hf : b8 = false := hf
        subst hf
        have d3 : b3 = true := hd ⟨3, .data⟩ (by simp) rfl
        subst d3
        have d5 : b5 = true := hd ⟨5, .data⟩ (by simp) rfl
        subst d5
        have d7 : b7 = true := hd ⟨7, .data⟩ (by simp) rfl
        subst d7
        refine Go.Proofs.YtbmklpcheopgoaaReg.opIn_val ho2 rfl (fun _ => trivial) (fun c h => by cases h) (v := .slice (some (ad.add (s * 3))) (e - s) (c0 - s)) (w1 := W') ?_ (hK _ _ ⟨b0, b1, b2, true, b4, true, b6, true, true, b9, b10, b11, r, rfl, rfl, by first | exact q1 | (intro h; cases h; done) | (intro h; have := q1 h; simpa using this) | (intros; simp_all), by first | exact q2 | (intro h; cases h; done) | (intro h; have := q2 h; simpa using this) | (intros; simp_all), by first | exact q3 | (intro h; cases h; done) | (intro h; have := q3 h; simpa using this) | (intros; simp_all), by first | exact q4 | (intro h; cases h; done) | (intro h; have := q4 h; simpa using this) | (intros; simp_all), by first | exact q5 | (intro h; cases h; done) | (intro h; have := q5 h; simpa using this) | (intros; simp_all), by first | exact q6 | (intro h; cases h; done) | (intro h; have := q6 h; simpa using this) | (intros; simp_all), by first | exact q7 | (intro h; rfl) | (intro h; cases h; done) | (intros; simp_all)⟩)
        simp [go_sem, hus, hse, hel, hsc, hsc2]
        trace_state
      · simp only [List.getElem?_toArray, List.getElem?_cons_succ, List.getElem?_cons_zero, Option.some.injEq] at ho
        subst ho
        replace hf : b9 = false := hf
        subst hf
        have d8 : b8 = true := hd ⟨8, .data⟩ (by simp) rfl
        subst d8
        have h9 := q4 rfl
        subst h9
        have h10 : b10 = false := by cases b10 <;> simp_all
        subst h10
        refine Go.Proofs.YtbmklpcheopgoaaReg.opIn_val ho2 rfl (fun _ => trivial) (fun c h => by cases h) (v := .slice (some ⟨g, 0, none⟩) (e - s) cN) (w1 := w1) ?_ (hK _ _ ⟨b0, b1, b2, b3, b4, b5, b6, b7, true, true, false, b11, r, rfl, rfl, fun _ => ⟨(q2 rfl).1, (q2 rfl).2.1, (q2 rfl).2.2, rfl⟩, q2, (by intro h; cases h), (by intro h; cases h), fun _ _ => rfl, (by intro h; cases h), by simpa using q7⟩)
        exact run_app rfl rfl rfl HR.out
      · simp only [List.getElem?_toArray, List.getElem?_cons_succ, List.getElem?_cons_zero, Option.some.injEq] at ho
        subst ho
        replace hf : b10 = false := hf
        subst hf
        have d0 : b0 = true := hd ⟨0, .data⟩ (by simp) rfl
        subst d0
        have d1 : b1 = true := hd ⟨1, .data⟩ (by simp) rfl
        subst d1
        have d9 : b9 = true := hd ⟨9, .data⟩ (by simp) rfl
        subst d9
        have h10 := q5 rfl rfl
        rw [← h10] at hYd
        refine Go.Proofs.YtbmklpcheopgoaaReg.opIn_wp ho2 rfl (op_yield (l := l) rfl (by simp [go_sem]) (by first | (simp [go_sem]; done) | (simp [go_sem]; rfl)) (show YieldAt (Fence.wide.inRound lc) (n - 1) Try.prog l _ W' _ from hYd (n - 1)) rfl (fun _ => trivial) ?_)
        rintro e2 W2 ⟨own', r1, r2, r3, r4⟩
        have hgv : (fun b => ∃ v a0 n0 c0', #[Value.int .i64 k, Value.slice (some ⟨g, 0, none⟩) (e - s) cN] = #[v, Value.slice (some a0) n0 c0'] ∧ b = a0.block) = (fun b => b = g) := by
          funext b
          refine propext ⟨?_, ?_⟩
          · rintro ⟨v, a0, n0, c0', he, rfl⟩
            simp at he
            obtain ⟨_, rfl, _⟩ := he
            rfl
          · rintro rfl
            exact ⟨_, _, _, _, rfl, rfl⟩
        have hP : ∃ rr, e2 = .returned (.bool rr) ∧ Post rr W2 := by
          rw [hPost]
          rcases r4 with ⟨rfl, r4⟩ | ⟨rfl, r4⟩
          · exact ⟨true, rfl, own', by rw [← hgv]; rw [h10] at r1; exact r1, r2, by rw [h10] at r3; exact r3.mono (fun b _ hh => by rcases hh with hh | hh | hh; exact .inl hh; exact .inr (.inl hh); exact .inr (.inr (by rw [← congrFun hgv b]; exact hh))), .inl ⟨rfl, r4⟩⟩
          · exact ⟨false, rfl, own', by rw [← hgv]; rw [h10] at r1; exact r1, r2, by rw [h10] at r3; exact r3.mono (fun b _ hh => by rcases hh with hh | hh | hh; exact .inl hh; exact .inr (.inl hh); exact .inr (.inr (by rw [← congrFun hgv b]; exact hh))), .inr ⟨rfl, r4⟩⟩
        obtain ⟨rr, rfl, hP⟩ := hP
        have h11 : b11 = false := by cases b11 with
          | false => rfl
          | true => exact absurd (q7 rfl) (by decide)
        exact ⟨_, rfl, hK _ _ ⟨true, true, b2, b3, b4, b5, b6, b7, b8, true, true, b11, rr, rfl, by subst h11; rfl, by simpa using q1, by simpa using q2, fun _ => ⟨rfl, rfl, rfl⟩, (by intro h; cases h), (by intro _ h; cases h), fun _ => hP, fun _ => rfl⟩⟩
      · simp only [List.getElem?_toArray, List.getElem?_cons_succ, List.getElem?_cons_zero, Option.some.injEq] at ho
        subst ho
        replace hf : b11 = false := hf
        subst hf
        have d10 : b10 = true := hd ⟨10, .data⟩ (by simp) rfl
        subst d10
        refine Go.Proofs.YtbmklpcheopgoaaReg.opIn_val ho2 rfl (fun _ => trivial) (fun c h => by cases h) (v := .bool (!r)) (w1 := W') ?_ (hK _ _ ⟨b0, b1, b2, b3, b4, b5, b6, b7, b8, b9, true, true, r, rfl, rfl, by first | exact q1 | (intro h; cases h; done) | (intro h; have := q1 h; simpa using this) | (intros; simp_all), by first | exact q2 | (intro h; cases h; done) | (intro h; have := q2 h; simpa using this) | (intros; simp_all), by first | exact q3 | (intro h; cases h; done) | (intro h; have := q3 h; simpa using this) | (intros; simp_all), by first | exact q4 | (intro h; cases h; done) | (intro h; have := q4 h; simpa using this) | (intros; simp_all), by first | exact q5 | (intro h; cases h; done) | (intro h; have := q5 h; simpa using this) | (intros; simp_all), by first | exact q6 | (intro h; cases h; done) | (intro h; have := q6 h; simpa using this) | (intros; simp_all), by first | exact q7 | (intro h; rfl) | (intro h; cases h; done) | (intros; simp_all)⟩)
        simp [go_sem]
    · rintro lst a W' ⟨b0, b1, b2, b3, b4, b5, b6, b7, b8, b9, b10, b11, r, rfl, rfl, q1, q2, q3, q4, q5, q6, q7⟩ hall
      have a0 : b0 = true := hall 0 (by decide)
      subst a0
      have a1 : b1 = true := hall 1 (by decide)
      subst a1
      have a2 : b2 = true := hall 2 (by decide)
      subst a2
      have a3 : b3 = true := hall 3 (by decide)
      subst a3
      have a4 : b4 = true := hall 4 (by decide)
      subst a4
      have a5 : b5 = true := hall 5 (by decide)
      subst a5
      have a6 : b6 = true := hall 6 (by decide)
      subst a6
      have a7 : b7 = true := hall 7 (by decide)
      subst a7
      have a8 : b8 = true := hall 8 (by decide)
      subst a8
      have a9 : b9 = true := hall 9 (by decide)
      subst a9
      have a10 : b10 = true := hall 10 (by decide)
      subst a10
      have a11 : b11 = true := hall 11 (by decide)
      subst a11
      have hP := q6 rfl
      rw [hPost] at hP
      obtain ⟨own', r1, r2, r3, r4⟩ := hP
      have hsz1 : V1.heap.size ≤ w1.heap.size := hNb.size
      have hWV := hs.chg.size
      have hYl : W.heap.size < V1.heap.size := (Array.getElem?_eq_some_iff.1 hy).1
      have hsub : ∀ b, own' b → own b ∨ V1.heap.size ≤ b := by
        intro b hb
        rcases r1.2 b hb with h | h | h
        · exact .inl (hu b h)
        · exact .inr (by omega)
        · exact .inr (by subst h; exact hg')
      have hgr : Grow own (fun b => own b ∨ own' b) V1 := ⟨fun b h => .inl h, fun b h => h.elim .inl (hsub b)⟩
      have hchg : Chg own V1 W' := ⟨r3.os.trans hNb.os, r3.tape.trans hNb.tape, r3.output.trans hNb.output, Nat.le_trans hsz1 r3.size, fun b hb hn => (r3.block b (by omega) (by
        rintro (h | h | h)
        · exact hn (hu b h)
        · subst h; exact hn hl
        · subst h; omega)).trans (hNb.block b hb (fun h => h))⟩
      have hlt2 : ∀ b, (own b ∨ own' b) → b < W'.heap.size := by
        rintro b (h | h)
        · exact hchg.lt (how b h)
        · exact r2 b h
      have hny2 : ¬ (own W.heap.size ∨ own' W.heap.size) := by
        rintro (h | h)
        · exact hny h
        · rcases hsub _ h with h | h
          · exact hny h
          · omega
      rcases r4 with ⟨rfl, r4⟩ | ⟨rfl, r4⟩
      · gi_wp2
        refine ⟨fun b => own b ∨ own' b, hgr, hlt2, hchg, ⟨.inl hl, hny2, hchg.heap hy hny⟩, own', r4, fun b h => .inr h, hs1.next r1 r2 r3 (fun b h => by subst h; omega)⟩
      · gi_wp2
        refine ⟨fun b => own b ∨ own' b, hgr, hlt2, hchg, rfl, own', r4, fun b h => ⟨.inr h, r2 b h⟩⟩
  · rintro D own V1 hD how hnD ⟨⟨hl, hny, hy⟩, u, hj, hu, hs⟩ hdef
    refine leaves_collected hdef fun V2 hc => ⟨_, results_none rfl _ _ _, ⟨_, rfl⟩, u, fun b hb => hc.lt (hs.lt b hb), .inl (hJ _ _ _ _ hj (hc.mono fun b _ hb => ⟨by omega, fun h => hnD (by subst hb; exact hu _ h)⟩))⟩
  · rintro D c k own V1 hD how hnD hk ⟨rfl, u, hj, hu⟩ hdef
    gi_wp2
    refine leaves_collected hdef fun V2 hc => ⟨_, results_none rfl _ _ _, ⟨_, rfl⟩, u, fun b hb => hc.lt (hu b hb).2, .inr ⟨k, hk, hJx _ _ _ _ hj (hc.mono fun b _ hb => ⟨by omega, fun h => hnD (by subst hb; exact (hu _ h).1)⟩)⟩⟩
end Go.Proofs.Ytbmklpcheopgoaa.H

namespace Go.Proofs.Ytbmklpcheopgoaa.H
open Go.RowKit Go.Proofs.YtbmklpcheopgoaaW.PrintWords Go.Proofs.YtbmklpcheopgoaaW.PrintLast Go.Proofs.YtbmklpcheopgoaaW.PrintMore
attribute [local go_sem] max2_int min2_int max_two min_two max_three min_three max_four min_four
set_option linter.unusedVariables false
set_option linter.unusedSimpArgs false
open Go.Proofs.YtbmklpcheopgoaaOps Go.Proofs.YtbmklpcheopgoaaIt Go.Proofs.YtbmklpcheopgoaaBlks Go.Proofs.YtbmklpcheopgoaaFlat Go.Shelf
attribute [local go_sem] Oper.semAt_some wide_depth wide_fn World.cell?_alloc_some
theorem told_info : (Try.prog.info? 22).map (fun i => (i.zero, i.size, i.bytes)) = some (some (.slice none 0 0), Kd.sz (Kd.slice 33 k33), 24) := by kernel_rfl
def toldK (pts : List S33) (es : List Int) (k : Nat) : List (List S33) := ((cutsL es pts.length).take k).map (contourOf pts)
theorem toldK_len (pts : List S33) (es : List Int) (k : Nat) (h : k ≤ (cutsL es pts.length).length) : (toldK pts es k).length = k := by simp [toldK, h]
theorem told_cuts_len (es : List Int) (n : Int) : ∀ b, (cutsF b es n).length ≤ es.length := by
 induction es with
 | nil => intro b; simp [cutsF]
 | cons e es ih =>
  intro b
  unfold cutsF
  split
  ·
   simp
  ·
   simp [ih (e + 1)]
theorem told_nil (l : Nat) (w : World) : (binOp .eql 73 (.func (Fn.func 54) #[] #[.pointer (some ⟨l, 0, none⟩)]) .nilFunc).run Try.prog w = .ok (.bool false) w := by kernel_rfl
set_option maxRecDepth 100000 in
set_option maxHeartbeats 4000000 in
theorem told_calls (A0 A1 : Option Addr) (c0 c1 : Nat) (pts : List S33) (es : List Int) (w : World) (hp : Kd.C k33 w A0 pts.length pts) (hc0 : pts.length ≤ c0) (hes : (Kd.int .i64).C w A1 es.length es) (hc1 : es.length ≤ c1) (hlim : pts.length ≤ 1000000) (hlime : es.length ≤ 1000000) :
  Calls Try.prog 16 #[.agg #[.slice A0 pts.length c0, .slice A1 es.length c1]] w fun e w' => ∃ v0 : Value, e = .returned (.tuple #[v0, .bool true]) ∧ Kd.S (Kd.slice 33 k33) 22 w' w.heap.size (fun _ => True) v0 (toldK pts es (cutsL es pts.length).length) ∧ Below w.heap.size w w' := by
 have hu := Try.underlying25
 refine (callsIn_wide (n := 0)).1 (callsIn_of_wp_marks Try.func16 rfl trivial ?_ rfl)
 simp only [Try.ntmps16, List.size_toArray, List.length_cons, List.length_nil, Nat.reduceAdd, Nat.reduceSub, Array.replicate_succ, Array.replicate_zero, List.push_toArray, List.append_toArray, List.nil_append, List.cons_append]
 have hnil := told_nil
 gi_wp2
 refine CallsIn.mono (contours_calls 0 _ _ _ _ _ _ _) ?_
 rintro e w' ⟨rfl, rfl⟩
 gi_wp2
 generalize hV : World.alloc (World.alloc (World.alloc (World.alloc (World.alloc (World.alloc w _) _) _) _) _) _ = V
 have hVs : V.heap.size = w.heap.size + 1 + 1 + 1 + 1 + 1 + 1 := by rw [← hV]; simp
 have hbw : Below w.heap.size w V := by rw [← hV]; exact ((((((Below.refl _ w).alloc (Nat.le_refl _) _).alloc (by simp) _).alloc (by simp; omega) _).alloc (by simp; omega) _).alloc (by simp; omega) _).alloc (by simp; omega) _
 have hB : Blks [(w.heap.size + 1 + 1 + 1 + 1 + 1, .cells #[.slice A0 pts.length c0, .slice A1 es.length c1] 25 (0, 0)), (w.heap.size + 1 + 1 + 1 + 1, .cells #[.slice (some ⟨w.heap.size + 1 + 1 + 1, 0, none⟩) 0 0] 27 (0, 0)), (w.heap.size + 1 + 1 + 1, .cells #[] 22 (0, 0)), (w.heap.size + 1 + 1, .cells #[.bool false] 4 (0, 0)), (w.heap.size + 1, .cells #[.slice none 0 0] 27 (0, 0)), (w.heap.size, .cells #[.slice A0 pts.length c0, .slice A1 es.length c1] 25 (0, 0))] V := by
  rw [← hV]; exact ((((((Blks.nil w).alloc _).alloc_at _ (by simp)).alloc_at _ (by simp)).alloc_at _ (by simp)).alloc_at _ (by simp)).alloc_at _ (by simp)
 clear hV
 have hit := contours_it V (w.heap.size + 1 + 1 + 1 + 1 + 1) A0 A1 c0 c1 pts es (hB.blk 0 rfl) (Kd.C_below hp hbw) (Kd.C_below hes hbw) hc0 hlim
 refine range_outer hit (by rfl) (fun args w => by simp [go_sem])
  (fun k own V' => own (w.heap.size + 1 + 1 + 1 + 1) ∧ (∀ b, own b → w.heap.size + 1 + 1 + 1 ≤ b ∧ b ≠ w.heap.size + 1 + 1 + 1 + 1 + 1) ∧ (∃ v, Blks [(w.heap.size + 1 + 1 + 1 + 1, .cells #[v] 27 (0, 0)), (w.heap.size + 1 + 1, .cells #[.bool false] 4 (0, 0)), (w.heap.size + 1, .cells #[.slice none 0 0] 27 (0, 0))] V' ∧
    Kd.S (Kd.slice 33 k33) 22 V' w.heap.size (fun b => own b ∧ b ≠ w.heap.size + 1 + 1 + 1 + 1) v (toldK pts es k)) ∧ Below w.heap.size w V' ∧ V.heap.size ≤ V'.heap.size)
  (fun c k own V' => False)
  (fun b => b = w.heap.size + 1 + 1 + 1 + 1 ∨ b = w.heap.size + 1 + 1 + 1) ?_ ?_ ?_ ?_ ?_
  (fun k own a' V' => ∃ (c : Int × Int) (g cap : Nat) (own0 : Nat → Prop) (v : Value), (cutsL es pts.length)[k]? = some c ∧ a' = ⟨#[.agg #[.slice A0 pts.length c0, .slice A1 es.length c1], .pointer (some ⟨w.heap.size, 0, none⟩), .pointer (some ⟨w.heap.size + 1, 0, none⟩), .pointer (some ⟨w.heap.size + 1 + 1, 0, none⟩), .pointer (some ⟨w.heap.size + 1 + 1 + 1 + 1, 0, none⟩), .func (.func 54) #[] #[.pointer (some ⟨w.heap.size + 1 + 1 + 1 + 1 + 1, 0, none⟩)], .int .i64 k, .slice (some ⟨g, 0, none⟩) (contourOf pts c).length cap, .slice (some ⟨w.heap.size + 1 + 1 + 1, 0, none⟩) 0 0, .agg #[.slice A0 pts.length c0, .slice A1 es.length c1], .func (.func 54) #[] #[.pointer (some ⟨w.heap.size + 1 + 1 + 1 + 1 + 1, 0, none⟩)], .func (.func 54) #[] #[.pointer (some ⟨w.heap.size + 1 + 1 + 1 + 1 + 1, 0, none⟩)], .bool false, undef, .func (.func 54) #[] #[.pointer (some ⟨w.heap.size + 1 + 1 + 1 + 1 + 1, 0, none⟩)], .int .i64 k, .slice (some ⟨g, 0, none⟩) (contourOf pts c).length cap, undef, undef, undef, undef, undef, undef, undef, undef, undef, undef], []⟩ ∧ (∀ b, own0 b → own b) ∧ own g ∧ ¬ own0 g ∧ g ≠ w.heap.size + 1 + 1 + 1 + 1 ∧
   Blks [(w.heap.size + 1 + 1 + 1 + 1, .cells #[v] 27 (0, 0)), (w.heap.size + 1 + 1, .cells #[.bool false] 4 (0, 0)), (w.heap.size + 1, .cells #[.slice none 0 0] 27 (0, 0))] V' ∧
   Kd.S (Kd.slice 33 k33) 22 V' w.heap.size (fun b => own0 b ∧ b ≠ w.heap.size + 1 + 1 + 1 + 1) v (toldK pts es k) ∧
   Kd.R k33 33 V' w.heap.size (Own1 (.slice (some ⟨g, 0, none⟩) (contourOf pts c).length cap)) (.slice (some ⟨g, 0, none⟩) (contourOf pts c).length cap) (contourOf pts c)) ?_ ?_ ?_ ?_ ?_
 ·
  rintro k own Va Vb ⟨h1, h2, ⟨v, h3, h4⟩, h5, h6⟩ hc
  refine ⟨h1, h2, ⟨v, h3.chg hc ?_, S_chg h4 hc (fun k hk hs => hs.2 hk.1)⟩, h5.trans (hc.below (Nat.le_trans (by omega) h5.size) (fun i hi h => by omega)), Nat.le_trans h6 hc.size⟩
  intro b hb hs
  simp at hb
  rcases hb with rfl | rfl | rfl
  ·
   exact hs.2 h1
  ·
   omega
  ·
   omega
 ·
  rintro c k own V1 V2 h hc
  exact h
 ·
  rintro k W args ⟨c, A, cap, _, rfl, _⟩
  rfl
 ·
  rintro b hb
  refine ⟨by omega, fun hr => ?_⟩
  rcases hr with ⟨h0, ad, rfl, hr⟩ | ⟨h0, ad, rfl, hr⟩ | hr
  ·
   obtain ⟨ad', e, hx, _⟩ := at_T33 hp 0 (by omega) (by omega)
   cases e
   have := World.block_lt_of_cell? w _ hx
   rw [add_block] at this
   omega
  ·
   obtain ⟨ad', e, hx⟩ := Kd.at_int hes 0 (by omega) (by omega)
   cases e
   have := World.block_lt_of_cell? w _ hx
   rw [add_block] at this
   omega
  ·
   omega
 ·
  exact ⟨.inl rfl, fun b hb => by omega, ⟨_, (hB.tail).sub (by simp), S_empty _ (hB.blk 2 rfl) (by omega) ⟨.inr rfl, by omega⟩⟩, hbw, Nat.le_refl _⟩
 ·
  rintro lc k own a' Va o o' hlc ⟨c, g, cap, own0, v, q1, q2, q3, q4, q5, q6, q7, q8, q9⟩ ho hcells
  exact ⟨c, g, cap, own0, v, q1, q2, q3, q4, q5, q6, q7.put_ (by simp [Obj.isCells]) ho hcells, S_put q8 ho hcells, R_put q9 ho hcells⟩
 ·
  rintro lc n k own args Va hlc ⟨h1, h2, ⟨v, h3, h4⟩, h5, h6⟩ how hlt hno hk ⟨c, A, cap, hkc, rfl, hcap, hC, hR⟩ hGo
  obtain ⟨m1, m2, m3⟩ := cutsF_mem es pts.length 0 k c hkc
  obtain ⟨g, cap', e1, hg1, hg2, _⟩ := Kd.R_form hR (by simp [contourOf]; omega)
  injection e1 with e1 e2 e3
  subst e1; subst e3
  clear e2
  have hog : ¬ own g := hGo g ⟨_, _, _, _, rfl, rfl⟩
  generalize hQ : Exit.then _ _ = Q0
  gi_wp2
  subst hQ
  show ∃ own', _
  refine ⟨fun b => own b ∨ b = g, ⟨fun _ h => .inl h, fun b h => h.elim .inl (fun e => .inr (.inr ⟨_, _, _, _, rfl, e⟩))⟩, fun b hb => hb.elim (how b) (fun e => by omega), Chg.refl _ _, ⟨.inl h1, fun b hb => hb.elim (h2 b) (fun e => by omega), ⟨v, h3, Kd.S_mono h4 (fun b hb => ⟨.inl hb.1, hb.2⟩)⟩, h5, h6⟩, c, g, cap, own, v, hkc, rfl, fun b hb => .inl hb, .inr rfl, hog, by omega, h3, h4, Kd.R_lower hR (by omega)⟩
 ·
  rintro lc n k own a' Va hlc ⟨h1, h2, _, h5, h6⟩ how ⟨rl, hrl⟩ hno hk ⟨c, g, cap, own0, v, q1, rfl, q3, q4, q5, q6, q7, q8, q9⟩
  have hlk := toldK_len pts es k (by omega)
  obtain ⟨Av, cv, rfl⟩ := Kd.S_slice q8
  rw [hlk] at q7 q8
  have hne : (((k : Nat) : Int) != ((k : Nat) : Int)) = false := by simp
  have g0 := q7.cell 0 rfl 0
  have g1 := q7.free 0 rfl 0
  simp at g0
  have hsc : (contourOf pts c).length ≤ 1000000 := by simp [contourOf]; omega
  have hbx : ∀ j u, ([.slice (some ⟨g, 0, none⟩) (contourOf pts c).length cap] : List Value)[j]? = some u → (Va.alloc (.cells #[.slice (some ⟨g, 0, none⟩) (contourOf pts c).length cap] 22)).cell? ((⟨Va.heap.size, 0, none⟩ : Addr).add j) = some u := by
   intro j u hj
   rw [add_plain, ((Blks.nil Va).alloc _).cell 0 rfl j]
   simpa using hj
  have hVa := Chg.alloc (S := fun _ => False) (Chg.refl _ Va) (.cells #[.slice (some ⟨g, 0, none⟩) (contourOf pts c).length cap] 22)
  have hown0 : ∀ k', (Value.slice Av k cv).ownBlock = some k' → own0 k' := fun k' h => by
   obtain ⟨_, hr⟩ := q8
   exact (hr.1 k' h).1
  have hVas : (Va.alloc (.cells #[.slice (some ⟨g, 0, none⟩) (contourOf pts c).length cap] 22)).heap.size = Va.heap.size + 1 := by simp
  have hVa6 := h6
  obtain ⟨v1, w1, hrun, hS1, hg1, hat⟩ := run_appendS (P := Try.prog) (Kd.slice 33 k33) (ty := 27) w.heap.size Try.underlying27 told_info rfl (by decide) (by decide) (.slice Av k cv) (toldK pts es k) (contourOf pts c) [.slice (some ⟨g, 0, none⟩) (contourOf pts c).length cap]
   (fun b => (own b ∧ b ≠ w.heap.size + 1 + 1 + 1 + 1) ∨ Va.heap.size ≤ b) (fun b => b = g) ⟨Va.heap.size, 0, none⟩ 1 hbx
   ⟨_, rfl, Kd.R_mono (R_chg q9 hVa (fun _ _ => id)) (fun k' hk' => by simp [Own1, Value.ownBlock] at hk'; exact hk')⟩
   (fun k' hk' => by subst hk'; exact ⟨.inl ⟨q4, q6⟩, fun h => q5 (hown0 _ h.symm)⟩)
   (fun k' hk' => .inr (by rw [hVas] at hk'; omega))
   (Kd.S_mono (S_chg q8 hVa (fun _ _ => id)) (fun k' hk' => ⟨.inl ⟨q3 _ hk'.1, hk'.2⟩, fun e => by subst e; exact q5 hk'.1⟩))
   (by rw [hVas]; omega) (by rw [hlk]; have := told_cuts_len es pts.length 0; unfold cutsL at hk; omega)
  have hb1 := (q7.alloc (.cells #[.slice (some ⟨g, 0, none⟩) (contourOf pts c).length cap] 22)).tail.chg (Chg.of_grownBy hg1) (fun b hb e => by
   have := hown0 b e
   have hle := h2 b (q3 _ this)
   simp at hb
   have h8 : b ≠ w.heap.size + 1 + 1 + 1 + 1 := by
    obtain ⟨_, hr⟩ := q8
    exact (hr.1 b e).2
   omega)
  have g2 := hb1.cell 0 rfl 0
  have g3 := hb1.free 0 rfl 0
  simp at g2
  have hsz1 := hg1.size
  rw [hVas] at hsz1
  obtain ⟨Av1, cv1, hv1⟩ := Kd.S_slice hS1
  obtain ⟨N1, hN1⟩ : ∃ N, (toldK pts es k ++ [contourOf pts c]).length = N := ⟨_, rfl⟩
  rw [hN1] at hv1
  subst hv1
  clear hN1
  have hnext : toldK pts es (k + 1) = toldK pts es k ++ [contourOf pts c] := by simp [toldK, List.take_add_one, q1]
  rw [← hnext] at hS1
  have hC1 : Chg own Va w1 := ((hVa.mono (fun _ _ h => h.elim)).trans ((Chg.of_grownBy hg1).mono (fun b _ e => q3 _ (hown0 b e))))
  have HQ := Lib.hid (And.intro h2 (And.intro h5 (And.intro hS1 (And.intro hb1 (And.intro hC1 hsz1)))))
  clear h2 h5 q8 q9 q7 hlk hS1 hb1 hC1 hsz1 hnext hVas hown0 hbx hsc
  generalize hQ : roundQ _ _ _ _ _ = Q0
  gi_wp2_with (refine app_listIn rfl rfl rfl rfl hrun ?_)
  subst hQ
  obtain ⟨h2, h5, hS1, hb1, hC1, hsz1⟩ := HQ.out
  have hC2 : Chg own Va (w1.setCell ⟨w.heap.size + 1 + 1 + 1 + 1, 0, none⟩ (.slice Av1 N1 cv1)) := hC1.setCell (p := ⟨w.heap.size + 1 + 1 + 1 + 1, 0, none⟩) (fun _ => h1) _
  have hsz2 : (w1.setCell ⟨w.heap.size + 1 + 1 + 1 + 1, 0, none⟩ (.slice Av1 N1 cv1)).heap.size = w1.heap.size := by simp [World.setCell]
  have hS2 := S_chg (Kd.S_bound hS1) (Chg.setCell (S := fun b => b = w.heap.size + 1 + 1 + 1 + 1) (Chg.refl _ w1) (p := ⟨w.heap.size + 1 + 1 + 1 + 1, 0, none⟩) (fun _ => rfl) (.slice Av1 N1 cv1)) (fun b hb e => by
   subst e
   rcases hb.1 with h | h
   ·
    exact h.2 rfl
   ·
    omega)
  refine ⟨fun b => own b ∨ (Va.heap.size ≤ b ∧ b < w1.heap.size), ⟨fun b h => .inl h, fun b h => h.elim .inl (fun h => .inr h.1)⟩, fun b hb => by rw [hsz2]; exact hb.elim (fun h => by have := how b h; omega) (fun h => h.2), hC2, .inl h1, fun b hb => hb.elim (h2 b) (fun h => by omega), ⟨_, hb1.set 0 rfl 0 _, Kd.S_mono hS2 (fun b hb => ?_)⟩, h5.trans (hC2.below (B := w.heap.size) h5.size (fun i hi h => by have := h2 i h; omega)), by rw [hsz2]; omega⟩
  rcases hb.1 with h | h
  ·
   exact ⟨.inl h.1, h.2⟩
  ·
   exact ⟨.inr ⟨h, hb.2.2.1⟩, by omega⟩
 ·
  rintro D own Va hD how hnD ⟨h1, h2, ⟨v, h3, h4⟩, h5, h6⟩ hdef
  obtain ⟨Av, cv, rfl⟩ := Kd.S_slice h4
  have g0 := h3.cell 0 rfl 0
  have g1 := h3.cell 1 rfl 0
  have g2 := h3.cell 2 rfl 0
  have f1 := h3.free 1 rfl 0
  have f2 := h3.free 2 rfl 0
  simp at g0 g1 g2
  have HH := Lib.hid (And.intro h3 (And.intro h4 (And.intro h5 h6)))
  clear h3 h4 h5
  gi_wp2
  obtain ⟨h3, h4, h5, _⟩ := HH.out
  generalize hvv : Value.slice Av (toldK pts es (cutsL es pts.length).length).length cv = vv at *
  have hd1 : Chg (fun b => b = w.heap.size + 1 ∨ b = w.heap.size + 1 + 1) Va ((Va.setCell ⟨w.heap.size + 1, 0, none⟩ vv).setCell ⟨w.heap.size + 1 + 1, 0, none⟩ (.bool true)) := ((Chg.refl (fun b => b = w.heap.size + 1 ∨ b = w.heap.size + 1 + 1) Va).setCell (p := ⟨w.heap.size + 1, 0, none⟩) (fun _ => .inl rfl) _).setCell (p := ⟨w.heap.size + 1 + 1, 0, none⟩) (fun _ => .inr rfl) _
  have hB9 := (h3.set 2 rfl 0 vv).set 1 rfl 0 (.bool true)
  have hS9 := S_chg h4 hd1 (fun k hk e => by have := h2 k hk.1; omega)
  have hW9 : Below w.heap.size w _ := h5.trans (hd1.below (B := w.heap.size) h5.size (fun i hi e => by omega))
  refine leaves_collected (hd1.heap hdef (fun e => by omega)) fun V2 hc => ?_
  have hB10 := hB9.chg hc (fun b hb e => by simp at hb; omega)
  have hS10 := S_chg hS9 hc (fun k hk e => hnD (by subst e; exact hk.1))
  have hW10 := hW9.trans (hc.below (B := w.heap.size) hW9.size (fun i hi e => by omega))
  have g0 := hB10.cell 2 rfl 0
  have g1 := hB10.cell 1 rfl 0
  simp at g0 g1
  subst hvv
  exact ⟨.tuple #[.slice Av (toldK pts es (cutsL es pts.length).length).length cv, .bool true], by simp [results, Try.f16, go_sem, g0, g1], _, rfl, Kd.S_mono hS10 (fun _ _ => trivial), hW10⟩
 ·
  rintro D c k own V1 _ _ _ _ h
  exact h.elim
def fleuronlaw03_told.f (l0_0 : List S33) (l0_1 : List Int) : Option (List (List S33) × Bool) :=
 if l0_0.length ≤ 1000000 ∧ l0_1.length ≤ 1000000 then some (toldK l0_0 l0_1 (cutsL l0_1 l0_0.length).length, true) else none
theorem fleuronlaw03_told.calls (A0_0 : Option Addr) (c0_0 : Nat) (l0_0 : List (S33)) (A0_1 : Option Addr) (c0_1 : Nat) (l0_1 : List Int) (r1 : List (List (S33))) (r2 : Bool) (w : World) (hr0_0 : Kd.C k33 w A0_0 l0_0.length l0_0) (hc0_0 : l0_0.length ≤ c0_0) (hr0_1 : Kd.C (Kd.int .i64) w A0_1 l0_1.length l0_1) (hc0_1 : l0_1.length ≤ c0_1) (h : fleuronlaw03_told.f l0_0 l0_1 = some (r1, r2)) :
  Calls Try.prog 16 #[.agg #[.slice A0_0 l0_0.length c0_0, .slice A0_1 l0_1.length c0_1]] w fun e w' => ∃ v0_ : Value, e = .returned (.tuple #[v0_, .bool r2]) ∧ Kd.S (Kd.slice 33 k33) 22 w' w.heap.size (fun _ => True) v0_ r1 ∧ Below w.heap.size w w' := by
 unfold fleuronlaw03_told.f at h
 split at h
 ·
  rename_i hl
  simp only [Option.some.injEq, Prod.mk.injEq] at h
  obtain ⟨rfl, rfl⟩ := h
  exact told_calls A0_0 A0_1 c0_0 c0_1 l0_0 l0_1 w hr0_0 hc0_0 hr0_1 hc0_1 hl.1 hl.2
 ·
  cases h
end Go.Proofs.Ytbmklpcheopgoaa.H

namespace Go.Proofs.Ytbmklpcheopgoaa.H
open Go.RowKit Go.Proofs.YtbmklpcheopgoaaW.PrintWords Go.Proofs.YtbmklpcheopgoaaW.PrintLast Go.Proofs.YtbmklpcheopgoaaW.PrintMore
attribute [local go_sem] max2_int min2_int max_two min_two max_three min_three max_four min_four
set_option linter.unusedVariables false
set_option linter.unusedSimpArgs false
attribute [local go_sem high] eqA33
def fleuronref03_Cuts.l0 : Nat → List Int → Int → List (S64) → Int → Int → Option ((List (S64)))
 | 0, _, _, _, _, _ => none
 | k + 1, x0, x1, x5, x6, x7 => if x7 < (x0.length : Int) then (if 0 ≤ x7 then (if (rd x0 x7) ≤ x6 then (some x5) else (if (rd x0 x7) ≥ x1 then (some x5) else (if x5.length < 8796093022208 then (fleuronref03_Cuts.l0 k x0 x1 (x5 ++ [(⟨wrap64 (x6 + 1), rd x0 x7⟩ : S64)]) (rd x0 x7) (wrap64 (x7 + 1))) else (none)))) else (none)) else (some x5)
def fleuronref03_Cuts.f (k : Nat) (l0 : List Int) (a1 : Int) : Option ((List (S64))) := fleuronref03_Cuts.l0 k l0 a1 (([] : List (S64))) (-1) 0
theorem fleuronref03_Cuts.mono_l : ∀ k, (∀ y0 y1 y2 y3 y4, LeO (fleuronref03_Cuts.l0 k y0 y1 y2 y3 y4) (fleuronref03_Cuts.l0 (k + 1) y0 y1 y2 y3 y4))
 | 0 => fun _ _ _ _ _ r h => by simp [fleuronref03_Cuts.l0] at h
 | k + 1 => by
  have ih0 := fleuronref03_Cuts.mono_l k
  ·
   intro y0 y1 y2 y3 y4
   unfold fleuronref03_Cuts.l0
   repeat' first
   | (with_reducible exact ih0 _ _ _ _ _)
   | (with_reducible exact LeO.refl _)
   | (with_reducible exact LeO.none _)
   | (with_reducible refine LeO.ite ?_ ?_)
   | (with_reducible refine LeO.bind ?_ (fun _ => ?_))
   | exact ih0 _ _ _ _ _
   | exact LeO.none _
   | refine LeO.ite ?_ ?_
   | refine LeO.bind ?_ (fun _ => ?_)
theorem fleuronref03_Cuts.mono : ∀ a0 a1 k, LeO (fleuronref03_Cuts.f k a0 a1) (fleuronref03_Cuts.f (k + 1) a0 a1) := by
 intro a0 a1 k
 have ih0 := fleuronref03_Cuts.mono_l k
 unfold fleuronref03_Cuts.f
 repeat' first
   | (with_reducible exact ih0 _ _ _ _ _)
   | (with_reducible exact LeO.refl _)
   | (with_reducible exact LeO.none _)
   | (with_reducible refine LeO.ite ?_ ?_)
   | (with_reducible refine LeO.bind ?_ (fun _ => ?_))
   | exact ih0 _ _ _ _ _
   | exact LeO.none _
   | refine LeO.ite ?_ ?_
   | refine LeO.bind ?_ (fun _ => ?_)
set_option maxHeartbeats 8000000 in
set_option maxRecDepth 100000 in
theorem fleuronref03_Cuts.calls (k : Nat) (A0 : Option Addr) (c0 : Nat) (l0 : List Int) (a1 : Int) (r : List (S64)) (w : World) (hr0 : Kd.C (Kd.int .i64) w A0 l0.length l0) (hc0 : l0.length ≤ c0) (h : fleuronref03_Cuts.f k l0 a1 = some r) :
  Calls Try.prog 42 #[.slice A0 l0.length c0, .int .i64 a1] w fun e w' => ∃ v0_ : Value, e = .returned (v0_) ∧ Kd.R k64 64 w' w.heap.size (fun _ => True) v0_ r ∧ Below w.heap.size w w' := by
 have hu64 := Try.underlying64
 have HR0 := aM hr0
 have HC0 := aM hc0
 clear hr0 hc0
 have HB := aM (Below.refl w.heap.size w)
 have H : (fleuronref03_Cuts.l0 k l0 a1 (([] : List (S64))) (-1) 0) = some r := h
 clear h
 obtain ⟨y102, hy102⟩ : ∃ y_ : List (S64), y_ = (([] : List (S64))) := ⟨_, rfl⟩
 replace H : (fleuronref03_Cuts.l0 k l0 a1 y102 (-1) 0) = some r := by first | (rw [hy102]; with_reducible exact H) | (have H2_ := (Option.bind_some _ _).symm.trans H; rw [hy102]; with_reducible exact H2_) | (have H2_ := (Option.bind_some _ _).symm.trans H; with_reducible exact H2_) | with_reducible exact H | (rw [hy102]; exact H) | exact H
 have Ny102 := aM hy102
 clear hy102
 have H' := aM H
 clear H
 go_enter Try.func42, Try.ntmps42
 go_wp2_with (first | ((with_reducible refine gate_dst (N := 8) rfl ?_); refine Kd.R_lit k64 _ 64 ?hg (N := 8) ?hd (xs := ([] : List (S64))) (inner := []) (ok := fun _ => True) (okp := fun _ => True) ?hr ?hp (fun _ hk => hk) trivial (Below.refl _ _) (Nat.le_refl _) (by simp) ?_; (case hd => rfl); (case hg => rfl); (case hr => first | (go_simp; done) | (go_simp; rfl)); (case hp => exact (Reps.none _ _)); intro v103 w3 ho4 hb hg_ hnew_; clear hg_ hnew_; (first | rw [← Ny102.out] at ho4 | (simp only [Int.reduceToNat] at ho4; rw [← Ny102.out] at ho4)); have n0_ := aM (Kd.R_lower ho4 (below_size (by repeat (first | (with_reducible first | exact HB.out | apply bA | apply bN | apply bD) | exact HB.out)))); have n1_ := aM (below_step (by repeat (first | (with_reducible first | exact HB.out | apply bA | apply bN | apply bD) | exact HB.out)) hb); clear HB; have HO104 := n0_; have HB := n1_; clear n0_ n1_; clear hb ho4))
 go_loopg [5, 6, 7] k (fun kq v5 v6 v7 w' => ∃ (x5_1 : List (S64)) (x6_1 : Int) (x7_1 : Int), v6 = .int .i64 x6_1 ∧ v7 = .int .i64 x7_1 ∧ Aside0 (fleuronref03_Cuts.l0 kq l0 a1 x5_1 x6_1 x7_1 = some r) ∧ Aside0 (kq ≤ k) ∧ Aside0 (Kd.R k64 64 w' w.heap.size (fun _ => True) v5 x5_1) ∧ Aside0 (Below w.heap.size w w'))
 case atStart => exact ⟨(y102), ((-1)), (0), (by first | rfl | (simp; done) | (simp [*]; done)), (by first | rfl | (simp; done) | (simp [*]; done)), H', ⟨Nat.le_refl _⟩, ⟨by (with_reducible repeat (first | apply Kd.R_alloc | apply Kd.R_drewN | apply Kd.R_drew)); exact HO104.out⟩, ⟨by repeat (first | (with_reducible first | exact HB.out | apply bA | apply bN | apply bD) | exact HB.out)⟩⟩
 case round =>
  clear H'
  try clear p2
  try clear c4
  obtain ⟨x5_1, x6_1, x7_1, rfl, rfl, HA, HK1, HO_5, HB⟩ := hrel
  cases gk with
  | zero => exact absurd HA.out (by simp [fleuronref03_Cuts.l0])
  | succ k1 =>
   have H := HA.out
   clear HA
   simp only [fleuronref03_Cuts.l0] at H
   by_cases c5 : x7_1 < (l0.length : Int)
   ·
    rw [if_pos c5] at H
    have c5b0 : decide (x7_1 < (l0.length : Int)) = true := decide_eq_true c5
    clear c5
    by_cases c6 : 0 ≤ x7_1
    ·
     rw [if_pos c6] at H
     have c6b0 : decide (0 ≤ x7_1) = true := decide_eq_true c6
     clear c6
     by_cases c7 : (rd l0 x7_1) ≤ x6_1
     ·
      rw [if_pos c7] at H
      have c7b0 : decide ((rd l0 x7_1) ≤ x6_1) = true := decide_eq_true c7
      clear c7
      obtain rfl := Option.some.inj H
      have p105 : 0 ≤ (x7_1 : Int) := dT (by assumption)
      have q105 : x7_1 < (l0.length : Int) := dT (by assumption)
      obtain ⟨ad105, e105, hx105_0⟩ := Kd.at_int HR0.out x7_1 p105 q105
      cases e105
      replace hx105_0 := (HB.out.cell (World.block_lt_of_cell? w _ hx105_0)).trans hx105_0
      replace p105 := eq_true p105
      replace q105 := eq_true q105
      go_wp2
      go_ret
      exact ⟨_, by first | rfl | (simp [errW_none, errW_some] <;> rfl) | (simp [*, errW_none, errW_some] <;> rfl), by (with_reducible repeat (first | apply Kd.R_alloc | apply Kd.R_drewN | apply Kd.R_drew)); exact HO_5.out, by repeat (first | (with_reducible first | exact HB.out | apply bA | apply bN | apply bD) | exact HB.out)⟩
     ·
      rw [if_neg c7] at H
      have c7b0 : decide ((rd l0 x7_1) ≤ x6_1) = false := decide_eq_false c7
      clear c7
      by_cases c8 : (rd l0 x7_1) ≥ a1
      ·
       rw [if_pos c8] at H
       have c8b0 : decide (a1 ≤ (rd l0 x7_1)) = true := decide_eq_true c8
       clear c8
       obtain rfl := Option.some.inj H
       have p105 : 0 ≤ (x7_1 : Int) := dT (by assumption)
       have q105 : x7_1 < (l0.length : Int) := dT (by assumption)
       obtain ⟨ad105, e105, hx105_0⟩ := Kd.at_int HR0.out x7_1 p105 q105
       cases e105
       replace hx105_0 := (HB.out.cell (World.block_lt_of_cell? w _ hx105_0)).trans hx105_0
       replace p105 := eq_true p105
       replace q105 := eq_true q105
       have p106 : 0 ≤ (x7_1 : Int) := dT (by assumption)
       have q106 : x7_1 < (l0.length : Int) := dT (by assumption)
       obtain ⟨ad106, e106, hx106_0⟩ := Kd.at_int HR0.out x7_1 p106 q106
       obtain rfl : ad105 = ad106 := (by injection e106)
       replace hx106_0 := (HB.out.cell (World.block_lt_of_cell? w _ hx106_0)).trans hx106_0
       replace p106 := eq_true p106
       replace q106 := eq_true q106
       go_wp2
       go_ret
       exact ⟨_, by first | rfl | (simp [errW_none, errW_some] <;> rfl) | (simp [*, errW_none, errW_some] <;> rfl), by (with_reducible repeat (first | apply Kd.R_alloc | apply Kd.R_drewN | apply Kd.R_drew)); exact HO_5.out, by repeat (first | (with_reducible first | exact HB.out | apply bA | apply bN | apply bD) | exact HB.out)⟩
      ·
       rw [if_neg c8] at H
       have c8b0 : decide (a1 ≤ (rd l0 x7_1)) = false := decide_eq_false c8
       clear c8
       by_cases c9 : x5_1.length < 8796093022208
       ·
        rw [if_pos c9] at H
        have LMc9 := aM c9
        clear c9
        obtain ⟨y108, hy108⟩ : ∃ y_ : List (S64), y_ = (x5_1 ++ [(⟨wrap64 (x6_1 + 1), rd l0 x7_1⟩ : S64)]) := ⟨_, rfl⟩
        replace H : (fleuronref03_Cuts.l0 k1 l0 a1 y108 (rd l0 x7_1) (wrap64 (x7_1 + 1))) = some r := by first | (rw [hy108]; with_reducible exact H) | (have H2_ := (Option.bind_some _ _).symm.trans H; rw [hy108]; with_reducible exact H2_) | (have H2_ := (Option.bind_some _ _).symm.trans H; with_reducible exact H2_) | with_reducible exact H | (rw [hy108]; exact H) | exact H
        have Ny108 := aM hy108
        clear hy108
        have H' := aM H
        clear H
        have p105 : 0 ≤ (x7_1 : Int) := dT (by assumption)
        have q105 : x7_1 < (l0.length : Int) := dT (by assumption)
        obtain ⟨ad105, e105, hx105_0⟩ := Kd.at_int HR0.out x7_1 p105 q105
        cases e105
        replace hx105_0 := (HB.out.cell (World.block_lt_of_cell? w _ hx105_0)).trans hx105_0
        replace p105 := eq_true p105
        replace q105 := eq_true q105
        have p106 : 0 ≤ (x7_1 : Int) := dT (by assumption)
        have q106 : x7_1 < (l0.length : Int) := dT (by assumption)
        obtain ⟨ad106, e106, hx106_0⟩ := Kd.at_int HR0.out x7_1 p106 q106
        obtain rfl : ad105 = ad106 := (by injection e106)
        replace hx106_0 := (HB.out.cell (World.block_lt_of_cell? w _ hx106_0)).trans hx106_0
        replace p106 := eq_true p106
        replace q106 := eq_true q106
        have p107 : 0 ≤ (x7_1 : Int) := dT (by assumption)
        have q107 : x7_1 < (l0.length : Int) := dT (by assumption)
        obtain ⟨ad107, e107, hx107_0⟩ := Kd.at_int HR0.out x7_1 p107 q107
        obtain rfl : ad105 = ad107 := (by injection e107)
        replace hx107_0 := (HB.out.cell (World.block_lt_of_cell? w _ hx107_0)).trans hx107_0
        replace p107 := eq_true p107
        replace q107 := eq_true q107
        go_wp2_with (first | ((with_reducible refine gate_builtin (b := .append) (xs := #[.tmp 30, .tmp 38]) rfl ?_); at_builtin; refine Kd.R_append k64 (w0 := w) w.heap.size rfl (.tmp 30) (.tmp 38) 75 64 (.agg #[(.int .i64 0), (.int .i64 0)]) 16 rfl Try.underlying75 info64 rfl (by decide) (by omega) u5 x5_1 (⟨wrap64 (x6_1 + 1), rd l0 x7_1⟩ : S64) [.int .i64 (wrap64 (x6_1 + 1)), .int .i64 (rd l0 x7_1)] (fun _ => True) (fun _ => False) rfl rfl ?aP (fun _ hk => hk.elim) ?aF ?aO ?aB ?aS ?aL ?_; (case aP => exact k64_mkM _ _ _ (⟨wrap64 (x6_1 + 1), rd l0 x7_1⟩ : S64)); (case aB => exact (by repeat (first | (with_reducible first | exact HB.out | apply bA | apply bN | apply bD) | exact HB.out))); (case aF => exact (fun _ _ => trivial)); (case aO => exact (by (with_reducible repeat (first | apply Kd.R_alloc | apply Kd.R_drewN | apply Kd.R_drew)); exact HO_5.out)); (case aS => exact (below_size (by repeat (first | (with_reducible first | exact HB.out | apply bA | apply bN | apply bD) | exact HB.out)))); (case aL => have := LMc9.out; omega); intro v109 w10 ho hb hg hat; rw [← Ny108.out] at ho; have n0_ := aM (hb); have n1_ := aM (ho); clear HB; clear HO_5; have HB := n0_; have HO110 := n1_; clear n0_ n1_; clear ho hb hg hat; have p111 : 0 ≤ (x7_1 : Int) := dT (by assumption); have q111 : x7_1 < (l0.length : Int) := dT (by assumption); obtain ⟨ad111, e111, hx111_0⟩ := Kd.at_int HR0.out x7_1 p111 q111; obtain rfl : ad105 = ad111 := (by injection e111); replace hx111_0 := (HB.out.cell (World.block_lt_of_cell? w _ hx111_0)).trans hx111_0; replace p111 := eq_true p111; replace q111 := eq_true q111))
        go_roundg k1
        case measure => have := HK1.out; omega
        case rel => exact ⟨(y108), (rd l0 x7_1), (wrap64 (x7_1 + 1)), (by first | rfl | (simp; done) | (simp [*]; done)), (by first | rfl | (simp; done) | (simp [*]; done)), H', ⟨by have := HK1.out; omega⟩, ⟨by (with_reducible repeat (first | apply Kd.R_alloc | apply Kd.R_drewN | apply Kd.R_drew)); exact HO110.out⟩, ⟨by repeat (first | (with_reducible first | exact HB.out | apply bA | apply bN | apply bD) | exact HB.out)⟩⟩
       ·
        rw [if_neg c9] at H
        exact absurd H (by simp)
    ·
     rw [if_neg c6] at H
     exact absurd H (by simp)
   ·
    rw [if_neg c5] at H
    have c5b0 : decide (x7_1 < (l0.length : Int)) = false := decide_eq_false c5
    clear c5
    obtain rfl := Option.some.inj H
    go_wp2
    go_ret
    exact ⟨_, by first | rfl | (simp [errW_none, errW_some] <;> rfl) | (simp [*, errW_none, errW_some] <;> rfl), by (with_reducible repeat (first | apply Kd.R_alloc | apply Kd.R_drewN | apply Kd.R_drew)); exact HO_5.out, by repeat (first | (with_reducible first | exact HB.out | apply bA | apply bN | apply bD) | exact HB.out)⟩
def fleuronref03_Contours.l0 : Nat → List (List (S33)) → List (S64) → Int → List (S33) → List Int → Option ((List (List (S33))))
 | 0, _, _, _, _, _ => none
 | k + 1, x3, x4, x5, x113000, x113001 => if x5 < (x4.length : Int) then ((some (([] : List (S33)) : List (S33))).bind fun y119 => (if 0 ≤ x5 then (if 0 ≤ ((rd_T64 x4 x5).f0) then (if ((rd_T64 x4 x5).f0) ≤ (wrap64 (((rd_T64 x4 x5).f1) + 1)) then (if (wrap64 (((rd_T64 x4 x5).f1) + 1)) ≤ (x113000.length : Int) then ((some ((x113000.take ((wrap64 (((rd_T64 x4 x5).f1) + 1)) : Int).toNat).drop (((rd_T64 x4 x5).f0) : Int).toNat : List (S33))).bind fun y124 => (if y119.length + y124.length < 5864062014805 then (if x3.length < 5864062014805 then (fleuronref03_Contours.l0 k (x3 ++ [(y119 ++ y124)]) x4 (wrap64 (x5 + 1)) x113000 x113001) else (none)) else (none))) else (none)) else (none)) else (none)) else (none))) else (some x3)
def fleuronref03_Contours.f (k : Nat) (l0_0 : List (S33)) (l0_1 : List Int) : Option ((List (List (S33)))) := (fleuronref03_Cuts.f k l0_1 (l0_0.length : Int)).bind fun t116 => (fleuronref03_Contours.l0 k (([] : List (List (S33)))) t116 0 l0_0 l0_1)
theorem fleuronref03_Contours.mono_l : ∀ k, (∀ y0 y1 y2 y3 y4, LeO (fleuronref03_Contours.l0 k y0 y1 y2 y3 y4) (fleuronref03_Contours.l0 (k + 1) y0 y1 y2 y3 y4))
 | 0 => fun _ _ _ _ _ r h => by simp [fleuronref03_Contours.l0] at h
 | k + 1 => by
  have ih0 := fleuronref03_Contours.mono_l k
  ·
   intro y0 y1 y2 y3 y4
   unfold fleuronref03_Contours.l0
   repeat' first
   | (with_reducible exact ih0 _ _ _ _ _)
   | (with_reducible exact fleuronref03_Cuts.mono _ _ _)
   | (with_reducible exact LeO.refl _)
   | (with_reducible exact LeO.none _)
   | (with_reducible refine LeO.ite ?_ ?_)
   | (with_reducible refine LeO.bind ?_ (fun _ => ?_))
   | exact ih0 _ _ _ _ _
   | exact fleuronref03_Cuts.mono _ _ _
   | exact LeO.none _
   | refine LeO.ite ?_ ?_
   | refine LeO.bind ?_ (fun _ => ?_)
theorem fleuronref03_Contours.mono : ∀ a0 a1 k, LeO (fleuronref03_Contours.f k a0 a1) (fleuronref03_Contours.f (k + 1) a0 a1) := by
 intro a0 a1 k
 have ih0 := fleuronref03_Contours.mono_l k
 unfold fleuronref03_Contours.f
 repeat' first
   | (with_reducible exact ih0 _ _ _ _ _)
   | (with_reducible exact fleuronref03_Cuts.mono _ _ _)
   | (with_reducible exact LeO.refl _)
   | (with_reducible exact LeO.none _)
   | (with_reducible refine LeO.ite ?_ ?_)
   | (with_reducible refine LeO.bind ?_ (fun _ => ?_))
   | exact ih0 _ _ _ _ _
   | exact fleuronref03_Cuts.mono _ _ _
   | exact LeO.none _
   | refine LeO.ite ?_ ?_
   | refine LeO.bind ?_ (fun _ => ?_)
def fleuronref03_Contours.T7 : Bool × List (List Nat × List Nat) := (true, [([], []), ([], []), ([], []), ([2], [2]), ([], []), ([], []), ([4, 5], [4, 5]), ([6], [6]), ([7], [7]), ([], []), ([], []), ([9, 10], [9, 10]), ([11], [11]), ([12], [12]), ([13], [13]), ([3, 8, 14], [3, 8, 14]), ([1, 15], [1, 15]), ([16], [16]), ([0, 17, 16], [0, 17]), ([18, 18, 0, 1, 2, 3, 4, 5, 6, 7, 8, 9, 10, 11, 12, 13, 14, 15, 16, 17, 18], [0, 18])])
def fleuronref03_Contours.B7 : List Nat := [0, 0, 0, 4, 0, 0, 48, 112, 240, 0, 0, 1536, 3584, 7680, 15872, 32764, 65534, 131070, 262143, 524287]
theorem fleuronref03_Contours.tab7 : rtab .any (opsOf Try.f17 7) = fleuronref03_Contours.T7 := by kernel_rfl
theorem fleuronref03_Contours.bits7 : waitsOk fleuronref03_Contours.T7.2 fleuronref03_Contours.B7 = true := by kernel_rfl
set_option maxHeartbeats 8000000 in
set_option maxRecDepth 100000 in
theorem fleuronref03_Contours.calls (k : Nat) (A0_0 : Option Addr) (c0_0 : Nat) (l0_0 : List (S33)) (A0_1 : Option Addr) (c0_1 : Nat) (l0_1 : List Int) (r : List (List (S33))) (w : World) (hr0_0 : Kd.C k33 w A0_0 l0_0.length l0_0) (hc0_0 : l0_0.length ≤ c0_0) (hr0_1 : Kd.C (Kd.int .i64) w A0_1 l0_1.length l0_1) (hc0_1 : l0_1.length ≤ c0_1) (h : fleuronref03_Contours.f k l0_0 l0_1 = some r) :
  Calls Try.prog 17 #[.agg #[.slice A0_0 l0_0.length c0_0, .slice A0_1 l0_1.length c0_1]] w fun e w' => ∃ v0_ : Value, e = .returned (v0_) ∧ Kd.S (Kd.slice 33 k33) 22 w' w.heap.size (fun _ => True) v0_ r ∧ Below w.heap.size w w' := by
 have hu25 := Try.underlying25
 have HR0_0 := aM hr0_0
 have HC0_0 := aM hc0_0
 clear hr0_0 hc0_0
 have HR0_1 := aM hr0_1
 have HC0_1 := aM hc0_1
 clear hr0_1 hc0_1
 have HB := aM (Below.refl w.heap.size w)
 have H : ((fleuronref03_Cuts.f k l0_1 (l0_0.length : Int)).bind fun t116 => (fleuronref03_Contours.l0 k (([] : List (List (S33)))) t116 0 l0_0 l0_1)) = some r := h
 clear h
 obtain ⟨y113, hy113⟩ : ∃ y_ : List (List (S33)), y_ = (([] : List (List (S33)))) := ⟨_, rfl⟩
 replace H : ((fleuronref03_Cuts.f k l0_1 (l0_0.length : Int)).bind fun t116 => (fleuronref03_Contours.l0 k y113 t116 0 l0_0 l0_1)) = some r := by first | (rw [hy113]; with_reducible exact H) | (have H2_ := (Option.bind_some _ _).symm.trans H; rw [hy113]; with_reducible exact H2_) | (have H2_ := (Option.bind_some _ _).symm.trans H; with_reducible exact H2_) | with_reducible exact H | (rw [hy113]; exact H) | exact H
 have Ny113 := aM hy113
 clear hy113
 replace H := Option.bind_eq_some_iff.mp H
 obtain ⟨t116, A20, H⟩ := H
 replace H : (fleuronref03_Contours.l0 k y113 t116 0 l0_0 l0_1) = some r := H
 have A2 := aM A20
 clear A20
 have H' := aM H
 clear H
 go_enter Try.func17, Try.ntmps17
 go_wp2_with (first | ((with_reducible refine gate_dst (N := 1) rfl ?_); refine box_event ?hg (N := 1) ?hd (cs := #[.slice A0_0 l0_0.length c0_0, .slice A0_1 l0_1.length c0_1]) (t := 25) ?hr ?_; (case hd => rfl); (case hg => rfl); (case hr => first | (go_simp; done) | (go_simp; rfl)); intro gb112 hg w3 hbox hb; have n0_ := aM (below_step (by repeat (first | (with_reducible first | exact HB.out | apply bA | apply bN | apply bD) | exact HB.out)) hb); have n1_ := aM (hbox); have n2_ := aM ((by rw [hg]; exact (below_size (by repeat (first | (with_reducible first | exact HB.out | apply bA | apply bN | apply bD) | exact HB.out))) : w.heap.size ≤ gb112)); have n3_ := aM ((by rw [hg]; exact (below_size (by repeat (first | (with_reducible first | exact HB.out | apply bA | apply bN | apply bD) | exact HB.out))) : w.heap.size ≤ gb112)); clear HB; have HB := n0_; have BK112 := n1_; have GW112 := n2_; have GE112 := n3_; clear n0_ n1_ n2_ n3_; clear hb hbox hg) | ((with_reducible refine gate_dst (N := 7) rfl ?_); refine Kd.S_lit (Kd.slice 33 k33) _ 22 ?hg (N := 7) ?hd (xs := ([] : List (List (S33)))) (inner := []) (ok := fun _ => True) (okp := fun _ => True) ?hr ?hp (fun _ hk => hk) trivial (Below.refl _ _) (Nat.le_refl _) (by simp) ?_; (case hd => rfl); (case hg => rfl); (case hr => first | (go_simp; done) | (go_simp; rfl)); (case hp => exact (Reps.none _ _)); intro v114 w4 ho5 hb hg_ hnew_; clear hg_ hnew_; (first | rw [← Ny113.out] at ho5 | (simp only [Int.reduceToNat] at ho5; rw [← Ny113.out] at ho5)); have n0_ := aM (Kd.S_lower ho5 (below_size (by repeat (first | (with_reducible first | exact HB.out | apply bA | apply bN | apply bD | refine bS ?_ GE112.out) | exact HB.out)))); have n1_ := aM (blk_below (g := gb112) (o := .cells #[.slice A0_0 l0_0.length c0_0, .slice A0_1 l0_1.length c0_1] 25 (0, 0)) (by (with_reducible repeat (first | refine kN ?_ _ | refine kD ?_ | refine kA ?_ _)); exact BK112.out) hb); have n2_ := aM (below_step (by repeat (first | (with_reducible first | exact HB.out | apply bA | apply bN | apply bD | refine bS ?_ GE112.out) | exact HB.out)) hb); clear BK112; clear HB; have HO115 := n0_; have BK112 := n1_; have HB := n2_; clear n0_ n1_ n2_; clear hb ho5; have hcz6_0 : w4.cell? ⟨gb112, 0, none⟩ = some (.slice A0_0 l0_0.length c0_0) := (blk_cell BK112.out 0).trans rfl; have hcz6_1 : w4.cell? ⟨gb112, 1, none⟩ = some (.slice A0_1 l0_1.length c0_1) := (blk_cell BK112.out 1).trans rfl; have hfz6_0 := blk_frozen BK112.out 0; have hfz6_1 := blk_frozen BK112.out 1) | ((with_reducible refine gate_callee (f := 42) rfl ?_); refine goesL_ (some 13) rfl rfl Try.func42 (by kernel_rfl) rfl #[.slice A0_1 l0_1.length c0_1, .int .i64 (l0_0.length : Int)] rfl (by (try simp only [List.map_toArray, List.map_cons, List.map_nil]); first | done | rfl | (simp only [List.length_drop, List.length_take]; rfl)) ?_; (with_reducible refine (fleuronref03_Cuts.calls k _ _ l0_1 (l0_0.length : Int) t116 _ ?side1 ?side2 A2.out).mono ?_); (case side1 => repeat (first | exact (Kd.C_below HR0_1.out HB.out) | (with_reducible refine Kd.C_alloc ?_ _) | (with_reducible refine Kd.C_drewN ?_ _) | (with_reducible refine Kd.C_drew ?_))); (case side2 => exact HC0_1.out); rintro e w7 ⟨v117, rfl, ho0, hb⟩; refine ⟨_, rfl, ?_⟩; have n0_ := aM (Kd.S_below (by (with_reducible repeat (first | apply Kd.S_alloc | apply Kd.S_drewN | apply Kd.S_drew)); exact HO115.out) hb); have n1_ := aM (Kd.R_lower ho0 (below_size (by repeat (first | (with_reducible first | exact HB.out | apply bA | apply bN | apply bD | refine bS ?_ GE112.out) | exact HB.out)))); have n2_ := aM (blk_below (g := gb112) (o := .cells #[.slice A0_0 l0_0.length c0_0, .slice A0_1 l0_1.length c0_1] 25 (0, 0)) (by (with_reducible repeat (first | refine kN ?_ _ | refine kD ?_ | refine kA ?_ _)); exact BK112.out) hb); have n3_ := aM (below_step (by repeat (first | (with_reducible first | exact HB.out | apply bA | apply bN | apply bD | refine bS ?_ GE112.out) | exact HB.out)) hb); clear HO115; clear BK112; clear HB; have HO115 := n0_; have HO118 := n1_; have BK112 := n2_; have HB := n3_; clear n0_ n1_ n2_ n3_; (try clear hb); (try clear hb2); (try clear hk); (try clear hi); (try clear ho0)))
 go_loopg [3, 5] k (fun kq v3 v5 w' => ∃ (x3_1 : List (List (S33))) (x5_1 : Int), v5 = .int .i64 x5_1 ∧ Aside0 (fleuronref03_Contours.l0 kq x3_1 t116 x5_1 l0_0 l0_1 = some r) ∧ Aside0 (kq ≤ k) ∧ Aside0 (Kd.S (Kd.slice 33 k33) 22 w' w.heap.size (fun _ => True) v3 x3_1) ∧ Aside0 (Kd.R k64 64 w' w.heap.size (fun _ => True) v117 t116) ∧ Aside0 (w'.heap[gb112]? = some (.cells #[(.slice A0_0 l0_0.length c0_0), (.slice A0_1 l0_1.length c0_1)] 25 (0, 0))) ∧ Aside0 (Below w.heap.size w w'))
 case atStart => exact ⟨(y113), (0), (by first | rfl | (simp; done) | (simp [*]; done)), H', ⟨Nat.le_refl _⟩, ⟨by (with_reducible repeat (first | apply Kd.S_alloc | apply Kd.S_drewN | apply Kd.S_drew)); exact HO115.out⟩, ⟨by (with_reducible repeat (first | apply Kd.R_alloc | apply Kd.R_drewN | apply Kd.R_drew)); exact HO118.out⟩, ⟨by (with_reducible repeat (first | refine kN ?_ _ | refine kD ?_ | refine kA ?_ _)); exact BK112.out⟩, ⟨by repeat (first | (with_reducible first | exact HB.out | apply bA | apply bN | apply bD | refine bS ?_ GE112.out) | exact HB.out)⟩⟩
 case round =>
  clear H'
  try clear c1
  try clear p2
  try clear c4
  try clear hcz6_0
  try clear hcz6_1
  try clear hfz6_0
  try clear hfz6_1
  obtain ⟨x3_1, x5_1, rfl, HA, HK1, HO_3, HO_4, BK112, HB⟩ := hrel
  cases gk with
  | zero => exact absurd HA.out (by simp [fleuronref03_Contours.l0])
  | succ k1 =>
   have H := HA.out
   clear HA
   simp only [fleuronref03_Contours.l0] at H
   by_cases c8 : x5_1 < (t116.length : Int)
   ·
    rw [if_pos c8] at H
    have c8b0 : decide (x5_1 < (t116.length : Int)) = true := decide_eq_true c8
    clear c8
    obtain ⟨y119, hy119⟩ : ∃ y_ : List (S33), y_ = (([] : List (S33))) := ⟨_, rfl⟩
    replace H : (if 0 ≤ x5_1 then (if 0 ≤ ((rd_T64 t116 x5_1).f0) then (if ((rd_T64 t116 x5_1).f0) ≤ (wrap64 (((rd_T64 t116 x5_1).f1) + 1)) then (if (wrap64 (((rd_T64 t116 x5_1).f1) + 1)) ≤ (l0_0.length : Int) then ((some ((l0_0.take ((wrap64 (((rd_T64 t116 x5_1).f1) + 1)) : Int).toNat).drop (((rd_T64 t116 x5_1).f0) : Int).toNat : List (S33))).bind fun y124 => (if y119.length + y124.length < 5864062014805 then (if x3_1.length < 5864062014805 then (fleuronref03_Contours.l0 k1 (x3_1 ++ [(y119 ++ y124)]) t116 (wrap64 (x5_1 + 1)) l0_0 l0_1) else (none)) else (none))) else (none)) else (none)) else (none)) else (none)) = some r := by first | (rw [hy119]; with_reducible exact H) | (have H2_ := (Option.bind_some _ _).symm.trans H; rw [hy119]; with_reducible exact H2_) | (have H2_ := (Option.bind_some _ _).symm.trans H; with_reducible exact H2_) | with_reducible exact H | (rw [hy119]; exact H) | exact H
    have Ny119 := aM hy119
    clear hy119
    by_cases c9 : 0 ≤ x5_1
    ·
     rw [if_pos c9] at H
     have c9b0 : decide (0 ≤ x5_1) = true := decide_eq_true c9
     clear c9
     by_cases c10 : 0 ≤ ((rd_T64 t116 x5_1).f0)
     ·
      rw [if_pos c10] at H
      have c10b0 := eq_true c10
      have c10b1 : decide (0 ≤ ((rd_T64 t116 x5_1).f0)) = true := decide_eq_true c10
      clear c10
      by_cases c11 : ((rd_T64 t116 x5_1).f0) ≤ (wrap64 (((rd_T64 t116 x5_1).f1) + 1))
      ·
       rw [if_pos c11] at H
       have c11b0 := eq_true c11
       have c11b1 : decide (((rd_T64 t116 x5_1).f0) ≤ (wrap64 (((rd_T64 t116 x5_1).f1) + 1))) = true := decide_eq_true c11
       by_cases c12 : (wrap64 (((rd_T64 t116 x5_1).f1) + 1)) ≤ (l0_0.length : Int)
       ·
        rw [if_pos c12] at H
        have c12b0 := eq_true c12
        have c12b1 : decide ((wrap64 (((rd_T64 t116 x5_1).f1) + 1)) ≤ (l0_0.length : Int)) = true := decide_eq_true c12
        obtain ⟨y124, hy124⟩ : ∃ y_ : List (S33), y_ = ((l0_0.take ((wrap64 (((rd_T64 t116 x5_1).f1) + 1)) : Int).toNat).drop (((rd_T64 t116 x5_1).f0) : Int).toNat) := ⟨_, rfl⟩
        replace H : (if y119.length + y124.length < 5864062014805 then (if x3_1.length < 5864062014805 then (fleuronref03_Contours.l0 k1 (x3_1 ++ [(y119 ++ y124)]) t116 (wrap64 (x5_1 + 1)) l0_0 l0_1) else (none)) else (none)) = some r := by first | (rw [hy124]; with_reducible exact H) | (have H2_ := (Option.bind_some _ _).symm.trans H; rw [hy124]; with_reducible exact H2_) | (have H2_ := (Option.bind_some _ _).symm.trans H; with_reducible exact H2_) | with_reducible exact H | (rw [hy124]; exact H) | exact H
        have Ny124 := aM hy124
        clear hy124
        by_cases c13 : y119.length + y124.length < 5864062014805
        ·
         rw [if_pos c13] at H
         have LMc13 := aM c13
         clear c13
         obtain ⟨y128, hy128⟩ : ∃ y_ : List (S33), y_ = (y119 ++ y124) := ⟨_, rfl⟩
         replace H : (if x3_1.length < 5864062014805 then (fleuronref03_Contours.l0 k1 (x3_1 ++ [y128]) t116 (wrap64 (x5_1 + 1)) l0_0 l0_1) else (none)) = some r := by first | (rw [hy128]; with_reducible exact H) | (have H2_ := (Option.bind_some _ _).symm.trans H; rw [hy128]; with_reducible exact H2_) | (have H2_ := (Option.bind_some _ _).symm.trans H; with_reducible exact H2_) | with_reducible exact H | (rw [hy128]; exact H) | exact H
         have Ny128 := aM hy128
         clear hy128
         by_cases c14 : x3_1.length < 5864062014805
         ·
          rw [if_pos c14] at H
          have LMc14 := aM c14
          clear c14
          obtain ⟨y131, hy131⟩ : ∃ y_ : List (List (S33)), y_ = (x3_1 ++ [y128]) := ⟨_, rfl⟩
          replace H : (fleuronref03_Contours.l0 k1 y131 t116 (wrap64 (x5_1 + 1)) l0_0 l0_1) = some r := by first | (rw [hy131]; with_reducible exact H) | (have H2_ := (Option.bind_some _ _).symm.trans H; rw [hy131]; with_reducible exact H2_) | (have H2_ := (Option.bind_some _ _).symm.trans H; with_reducible exact H2_) | with_reducible exact H | (rw [hy131]; exact H) | exact H
          have Ny131 := aM hy131
          clear hy131
          have H' := aM H
          clear H
          obtain ⟨Ao15, co15, eo15⟩ := Kd.R_slice HO_4.out
          subst eo15
          try go_wp2_with (first | ((with_reducible refine gate_dst (N := 20) rfl ?_); refine Kd.R_lit k33 _ 33 ?hg (N := 20) ?hd (xs := ([] : List (S33))) (inner := []) (ok := fun _ => True) (okp := fun _ => True) ?hr ?hp (fun _ hk => hk) trivial (Below.refl _ _) (Nat.le_refl _) (by simp) ?_; (case hd => rfl); (case hg => rfl); (case hr => first | (go_simp; done) | (go_simp; rfl)); (case hp => exact (Reps.none _ _)); intro v120 w16 ho17 hb hg_ hnew_; clear hg_ hnew_; (first | rw [← Ny119.out] at ho17 | (simp only [Int.reduceToNat] at ho17; rw [← Ny119.out] at ho17)); have n0_ := aM (Kd.S_elder' (by (with_reducible repeat (first | apply Kd.S_alloc | apply Kd.S_drewN | apply Kd.S_drew)); exact HO_3.out) (Kd.R_base ho17) hb); have n1_ := aM (Kd.R_below (by (with_reducible repeat (first | apply Kd.R_alloc | apply Kd.R_drewN | apply Kd.R_drew)); exact HO_4.out) hb); have n2_ := aM (Kd.R_lower ho17 (below_size (by repeat (first | (with_reducible first | exact HB.out | apply bA | apply bN | apply bD | refine bS ?_ GE112.out) | exact HB.out)))); have n3_ := aM (blk_below (g := gb112) (o := .cells #[.slice A0_0 l0_0.length c0_0, .slice A0_1 l0_1.length c0_1] 25 (0, 0)) (by (with_reducible repeat (first | refine kN ?_ _ | refine kD ?_ | refine kA ?_ _)); exact BK112.out) hb); have n4_ := aM (below_step (by repeat (first | (with_reducible first | exact HB.out | apply bA | apply bN | apply bD | refine bS ?_ GE112.out) | exact HB.out)) hb); clear HO_3; clear HO_4; clear BK112; clear HB; have HO_3 := n0_; have HO_4 := n1_; have HO121 := n2_; have BK112 := n3_; have HB := n4_; clear n0_ n1_ n2_ n3_ n4_; clear hb ho17))
          have n0_ := aM (Kd.S_drew HO_3.out)
          have n1_ := aM (Kd.R_drew HO_4.out)
          have n2_ := aM (Kd.R_drew HO121.out)
          have n3_ := aM (kD BK112.out)
          have n4_ := aM (bD HB.out)
          clear HO_3
          clear HO_4
          clear HO121
          clear BK112
          clear HB
          have HO_3 := n0_
          have HO_4 := n1_
          have HO121 := n2_
          have BK112 := n3_
          have HB := n4_
          clear n0_ n1_ n2_ n3_ n4_
          have p122 : 0 ≤ (x5_1 : Int) := dT (by assumption)
          have q122 : x5_1 < (t116.length : Int) := dT (by assumption)
          obtain ⟨ad122, e122, hx122_0, hx122_1⟩ := at_T64 (Kd.R_reads' HO_4.out).2.2 x5_1 p122 q122
          cases e122
          replace p122 := eq_true p122
          replace q122 := eq_true q122
          have p123 : 0 ≤ (x5_1 : Int) := dT (by assumption)
          have q123 : x5_1 < (t116.length : Int) := dT (by assumption)
          obtain ⟨ad123, e123, hx123_0, hx123_1⟩ := at_T64 (Kd.R_reads' HO_4.out).2.2 x5_1 p123 q123
          obtain rfl : ad122 = ad123 := (by injection e123)
          replace p123 := eq_true p123
          replace q123 := eq_true q123
          have q19 : ((wrap64 (((rd_T64 t116 x5_1).f1) + 1)) : Int) ≤ ((l0_0.length : Int) : Int) := dT (by assumption)
          obtain ⟨i019, hi019, _, hsz19, _⟩ := info_parts info33
          have hroom19 : l0_0.length ≤ c0_0 := HC0_0.out
          have hC19 : Kd.C k33 _ A0_0 l0_0.length l0_0 := HR0_0.out
          have ql19 : (((rd_T64 t116 x5_1).f0) : Int) ≤ ((wrap64 (((rd_T64 t116 x5_1).f1) + 1)) : Int) := dT (by assumption)
          have q019 : (0 : Int) ≤ (((rd_T64 t116 x5_1).f0) : Int) := dT (by assumption)
          have hcut19 := cut_mid (P := Try.prog) 22 33 .i64 .i64 Try.underlying22 hi019 3 hsz19 A0_0 l0_0.length c0_0 ((rd_T64 t116 x5_1).f0) (wrap64 (((rd_T64 t116 x5_1).f1) + 1)) q019 ql19 q19 hroom19
          have hr19 := Kd.C_mid (lo := (((rd_T64 t116 x5_1).f0) : Int).toNat) (hi := ((wrap64 (((rd_T64 t116 x5_1).f1) + 1)) : Int).toNat) (c := c0_0) hC19 (by omega) (by omega) hroom19
          obtain ⟨A19, hA19⟩ : ∃ A1, A1 = (if c0_0 = (((rd_T64 t116 x5_1).f0) : Int).toNat then A0_0 else (A0_0 : Option Addr).map (·.add ((((rd_T64 t116 x5_1).f0) : Int).toNat * 3))) := ⟨_, rfl⟩
          obtain ⟨c19, hc19⟩ : ∃ c1, c1 = c0_0 - (((rd_T64 t116 x5_1).f0) : Int).toNat := ⟨_, rfl⟩
          have hy19 : y124.length = ((wrap64 (((rd_T64 t116 x5_1).f1) + 1)) : Int).toNat - (((rd_T64 t116 x5_1).f0) : Int).toNat := (by rw [Ny124.out, List.length_drop, List.length_take] <;> omega)
          rw [show ((l0_0).take ((wrap64 (((rd_T64 t116 x5_1).f1) + 1)) : Int).toNat).drop (((rd_T64 t116 x5_1).f0) : Int).toNat = y124 from Ny124.out.symm] at hr19
          replace hr19 : Kd.C k33 _ A19 y124.length y124 := (by rw [hA19]; exact hr19)
          rw [← hy19, ← hA19, ← hc19] at hcut19
          have HR127 := aM hr19
          have HC127 := aM (show y124.length ≤ c19 from by rw [hy19, hc19]; exact Nat.sub_le_sub_right (Nat.le_trans (by omega) hroom19) _)
          clear hr19 hC19 hroom19 hi019 hsz19 hc19
          have KY19 := aM hy19
          have KA19 := aM hA19
          clear hy19 hA19
          replace q19 := eq_true q19
          refine start_ (n := 20) (S := fun w' => w'.cell? ⟨gb112, 0, none⟩ = some (.slice A0_0 l0_0.length c0_0) ∧ w'.cell? ⟨gb112, 1, none⟩ = some (.slice A0_1 l0_1.length c0_1) ∧ w'.cell? (ad122.add ((x5_1).toNat * 2)) = some (.int .i64 ((rd_T64 t116 x5_1).f0)) ∧ w'.cell? ⟨(ad122.add ((x5_1).toNat * 2)).block, (ad122.add ((x5_1).toNat * 2)).off + 1, none⟩ = some (.int .i64 ((rd_T64 t116 x5_1).f1)) ∧ w'.cell? (ad122.add ((x5_1).toNat * 2)) = some (.int .i64 ((rd_T64 t116 x5_1).f0)) ∧ w'.cell? ⟨(ad122.add ((x5_1).toNat * 2)).block, (ad122.add ((x5_1).toNat * 2)).off + 1, none⟩ = some (.int .i64 ((rd_T64 t116 x5_1).f1))) (ds := [16, 17, 18]) #[false, false, false, false, false, false, false, false, false, false, false, false, false, false, false, false, false, false, false, false] (by kernel_rfl) rfl rfl ⟨(blk_cell BK112.out 0).trans rfl, (blk_cell BK112.out 1).trans rfl, hx122_0, hx122_1, hx123_0, hx123_1⟩ (fun hHeld => ?_); refine with_tabW fleuronref03_Contours.tab7 fleuronref03_Contours.bits7 (fun HT_ HW_ => ?_)
          generalize w16.drew = w18 at HO_3 HO_4 HO121 BK112 HB HR127 hx122_0 hx122_1 hx123_0 hx123_1 hHeld ⊢
          refine pure_ (i := 0) (N := some 21) (v := ?_) (a' := ?_) #[true, false, false, false, false, false, false, false, false, false, false, false, false, false, false, false, false, false, false, false] rfl rfl (any_of HT_.out (by kernel_rfl)) (fun _ _ _ h => h) (Or.inl ⟨by rfl, ?_⟩) ?_ ?_
          rotate_left
          ·
           intro w'
           go_simp
           with_reducible rfl
          rotate_left
          ·
           simp only [Act.put, List.setIfInBounds_toArray, List.set_cons_zero, List.set_cons_succ, i64_w, i32_w]
           rfl
          refine pure_ (i := 1) (N := some 22) (v := ?_) (a' := ?_) #[true, true, false, false, false, false, false, false, false, false, false, false, false, false, false, false, false, false, false, false] rfl rfl (any_of HT_.out (by kernel_rfl)) (fun _ _ _ h => h) (Or.inl ⟨by rfl, ?_⟩) ?_ ?_
          rotate_left
          ·
           intro w'
           go_simp
           with_reducible rfl
          rotate_left
          ·
           simp only [Act.put, List.setIfInBounds_toArray, List.set_cons_zero, List.set_cons_succ, i64_w, i32_w]
           rfl
          refine pure_ (i := 2) (N := some 23) (v := ?_) (a' := ?_) #[true, true, true, false, false, false, false, false, false, false, false, false, false, false, false, false, false, false, false, false] rfl rfl (any_of HT_.out (by kernel_rfl)) (fun _ _ _ h => h) (Or.inl ⟨by rfl, ?_⟩) ?_ ?_
          rotate_left
          ·
           intro w'
           go_simp
           with_reducible rfl
          rotate_left
          ·
           simp only [Act.put, List.setIfInBounds_toArray, List.set_cons_zero, List.set_cons_succ, i64_w, i32_w]
           rfl
          refine pure_ (i := 4) (N := some 25) (v := ?_) (a' := ?_) #[true, true, true, false, true, false, false, false, false, false, false, false, false, false, false, false, false, false, false, false] rfl rfl (any_of HT_.out (by kernel_rfl)) (fun _ _ _ h => h) (Or.inl ⟨by rfl, ?_⟩) ?_ ?_
          rotate_left
          ·
           intro w'
           go_simp
           with_reducible rfl
          rotate_left
          ·
           simp only [Act.put, List.setIfInBounds_toArray, List.set_cons_zero, List.set_cons_succ, i64_w, i32_w]
           rfl
          refine pure_ (i := 5) (N := some 26) (v := ?_) (a' := ?_) #[true, true, true, false, true, true, false, false, false, false, false, false, false, false, false, false, false, false, false, false] rfl rfl (any_of HT_.out (by kernel_rfl)) (fun _ _ _ h => h) (Or.inl ⟨by rfl, ?_⟩) ?_ ?_
          rotate_left
          ·
           intro w'
           go_simp
           with_reducible rfl
          rotate_left
          ·
           simp only [Act.put, List.setIfInBounds_toArray, List.set_cons_zero, List.set_cons_succ, i64_w, i32_w]
           rfl
          refine pure_ (i := 6) (N := some 27) (v := ?_) (a' := ?_) #[true, true, true, false, true, true, true, false, false, false, false, false, false, false, false, false, false, false, false, false] rfl rfl (any_of HT_.out (by kernel_rfl)) (fun _ _ _ h => h) (Or.inl ⟨by rfl, ?_⟩) ?_ ?_
          rotate_left
          ·
           intro w'
           go_simp
           with_reducible rfl
          rotate_left
          ·
           simp only [Act.put, List.setIfInBounds_toArray, List.set_cons_zero, List.set_cons_succ, i64_w, i32_w]
           rfl
          refine pure_ (i := 7) (N := some 28) (v := ?_) (a' := ?_) #[true, true, true, false, true, true, true, true, false, false, false, false, false, false, false, false, false, false, false, false] rfl rfl (any_of HT_.out (by kernel_rfl)) (fun _ _ _ h => h) (Or.inl ⟨by rfl, ?_⟩) ?_ ?_
          rotate_left
          ·
           intro w'
           go_simp
           with_reducible rfl
          rotate_left
          ·
           simp only [Act.put, List.setIfInBounds_toArray, List.set_cons_zero, List.set_cons_succ, i64_w, i32_w]
           rfl
          refine pure_ (i := 9) (N := some 30) (v := ?_) (a' := ?_) #[true, true, true, false, true, true, true, true, false, true, false, false, false, false, false, false, false, false, false, false] rfl rfl (any_of HT_.out (by kernel_rfl)) (fun _ _ _ h => h) (Or.inl ⟨by rfl, ?_⟩) ?_ ?_
          rotate_left
          ·
           intro w'
           go_simp
           with_reducible rfl
          rotate_left
          ·
           simp only [Act.put, List.setIfInBounds_toArray, List.set_cons_zero, List.set_cons_succ, i64_w, i32_w]
           rfl
          refine pure_ (i := 10) (N := some 31) (v := ?_) (a' := ?_) #[true, true, true, false, true, true, true, true, false, true, true, false, false, false, false, false, false, false, false, false] rfl rfl (any_of HT_.out (by kernel_rfl)) (fun _ _ _ h => h) (Or.inl ⟨by rfl, ?_⟩) ?_ ?_
          rotate_left
          ·
           intro w'
           go_simp
           with_reducible rfl
          rotate_left
          ·
           simp only [Act.put, List.setIfInBounds_toArray, List.set_cons_zero, List.set_cons_succ, i64_w, i32_w]
           rfl
          refine pure_ (i := 11) (N := some 32) (v := ?_) (a' := ?_) #[true, true, true, false, true, true, true, true, false, true, true, true, false, false, false, false, false, false, false, false] rfl rfl (any_of HT_.out (by kernel_rfl)) (fun _ _ _ h => h) (Or.inl ⟨by rfl, ?_⟩) ?_ ?_
          rotate_left
          ·
           intro w'
           go_simp
           with_reducible rfl
          rotate_left
          ·
           simp only [Act.put, List.setIfInBounds_toArray, List.set_cons_zero, List.set_cons_succ, i64_w, i32_w]
           rfl
          refine pure_ (i := 12) (N := some 33) (v := ?_) (a' := ?_) #[true, true, true, false, true, true, true, true, false, true, true, true, true, false, false, false, false, false, false, false] rfl rfl (any_of HT_.out (by kernel_rfl)) (fun _ _ _ h => h) (Or.inl ⟨by rfl, ?_⟩) ?_ ?_
          rotate_left
          ·
           intro w'
           go_simp
           with_reducible rfl
          rotate_left
          ·
           simp only [Act.put, List.setIfInBounds_toArray, List.set_cons_zero, List.set_cons_succ, i64_w, i32_w]
           rfl
          refine take_ (i := 3) (N := some 24) (v := ?_) (a' := ?_) #[true, true, true, true, true, true, true, true, false, true, true, true, true, false, false, false, false, false, false, false] rfl rfl (take_ofW HT_.out HW_.out (by kernel_rfl)) (fun _ _ _ h => h) (Or.inl ⟨by rfl, ?_⟩) hHeld ?_ ?_
          rotate_left
          ·
           rintro w' ⟨s0, s1, s2, s3, s4, s5⟩
           go_simp
           with_reducible rfl
          rotate_left
          ·
           simp only [Act.put, List.setIfInBounds_toArray, List.set_cons_zero, List.set_cons_succ, i64_w, i32_w]
           rfl
          refine take_ (i := 8) (N := some 29) (v := ?_) (a' := ?_) #[true, true, true, true, true, true, true, true, true, true, true, true, true, false, false, false, false, false, false, false] rfl rfl (take_ofW HT_.out HW_.out (by kernel_rfl)) (fun _ _ _ h => h) (Or.inl ⟨by rfl, ?_⟩) hHeld ?_ ?_
          rotate_left
          ·
           rintro w' ⟨s0, s1, s2, s3, s4, s5⟩
           go_simp
           with_reducible rfl
          rotate_left
          ·
           simp only [Act.put, List.setIfInBounds_toArray, List.set_cons_zero, List.set_cons_succ, i64_w, i32_w]
           rfl
          refine take_ (i := 13) (N := some 34) (v := ?_) (a' := ?_) #[true, true, true, true, true, true, true, true, true, true, true, true, true, true, false, false, false, false, false, false] rfl rfl (take_ofW HT_.out HW_.out (by kernel_rfl)) (fun _ _ _ h => h) (Or.inl ⟨by rfl, ?_⟩) hHeld ?_ ?_
          rotate_left
          ·
           rintro w' ⟨s0, s1, s2, s3, s4, s5⟩
           go_simp
           with_reducible rfl
          rotate_left
          ·
           simp only [Act.put, List.setIfInBounds_toArray, List.set_cons_zero, List.set_cons_succ, i64_w, i32_w]
           rfl
          refine pure_ (i := 14) (N := some 35) (v := ?_) (a' := ?_) #[true, true, true, true, true, true, true, true, true, true, true, true, true, true, true, false, false, false, false, false] rfl rfl (any_of HT_.out (by kernel_rfl)) (fun _ _ _ h => h) (Or.inl ⟨by rfl, ?_⟩) ?_ ?_
          rotate_left
          ·
           intro w'
           go_simp
           with_reducible rfl
          rotate_left
          ·
           simp only [Act.put, List.setIfInBounds_toArray, List.set_cons_zero, List.set_cons_succ, i64_w, i32_w]
           rfl
          refine pure_ (i := 15) (N := some 36) (v := ?_) (a' := ?_) #[true, true, true, true, true, true, true, true, true, true, true, true, true, true, true, true, false, false, false, false] rfl rfl (any_of HT_.out (by kernel_rfl)) (fun _ _ _ h => h) (Or.inl ⟨by rfl, ?_⟩) ?_ ?_
          rotate_left
          ·
           intro w'
           go_simp
           with_reducible rfl
          rotate_left
          ·
           simp only [Act.put, List.setIfInBounds_toArray, List.set_cons_zero, List.set_cons_succ, i64_w, i32_w]
           rfl
          refine last_ (i := 16) (N := some 37) #[true, true, true, true, true, true, true, true, true, true, true, true, true, true, true, true, true, false, false, false] rfl rfl (one_of HT_.out (by kernel_rfl)) (by decide) (fun K hK => ?_)
          refine Kd.R_append_rows_step k33 (w0 := w) w.heap.size (by rfl) (.tmp 22) (.tmp 36) 22 33 (.agg #[(.int .i64 0), (.int .i64 0), (.bool false)]) 24 rfl Try.underlying22 info33 rfl (by decide) (by omega) v120 y119 y124 _ _ _ (fun _ => True) (fun _ => False) rfl rfl ?aO ?aR (fun _ _ h => h) (fun _ h => h.elim) ?aF ?aB ?aS ?aL ?_
          (case aR => repeat (first | exact (Kd.C_below HR127.out HB.out) | (with_reducible refine Kd.C_alloc ?_ _) | (with_reducible refine Kd.C_drewN ?_ _) | (with_reducible refine Kd.C_drew ?_)))
          (case aB => exact (by repeat (first | (with_reducible first | exact HB.out | apply bA | apply bN | apply bD | refine bS ?_ GE112.out) | exact HB.out)))
          (case aF => exact (fun _ _ => trivial))
          (case aO => exact (by (with_reducible repeat (first | apply Kd.R_alloc | apply Kd.R_drewN | apply Kd.R_drew)); exact HO121.out))
          (case aS => exact (below_size (by repeat (first | (with_reducible first | exact HB.out | apply bA | apply bN | apply bD | refine bS ?_ GE112.out) | exact HB.out))))
          (case aL => have := LMc13.out; omega)
          intro v129 w20 ho hb hg hat
          rw [← Ny128.out] at ho
          have n0_ := aM (Kd.S_after (ok := (fun _ => True)) (by (with_reducible repeat (first | apply Kd.S_alloc | apply Kd.S_drewN | apply Kd.S_drew)); exact HO_3.out) hg hat)
          have n1_ := aM (Kd.R_over' (by (with_reducible repeat (first | apply Kd.R_alloc | apply Kd.R_drewN | apply Kd.R_drew)); exact HO_4.out) (Kd.R_typed (by (with_reducible repeat (first | apply Kd.R_alloc | apply Kd.R_drewN | apply Kd.R_drew)); exact HO121.out)) (by decide) hg)
          have n2_ := aM (blk_grown (g := gb112) (o := .cells #[.slice A0_0 l0_0.length c0_0, .slice A0_1 l0_1.length c0_1] 25 (0, 0)) (by (with_reducible repeat (first | refine kN ?_ _ | refine kD ?_ | refine kA ?_ _)); exact BK112.out) hg (Kd.R_ne HO121.out BK112.out (by decide)))
          have n3_ := aM (hb)
          have n4_ := aM (ho)
          clear HO_3
          clear HO_4
          clear BK112
          clear HB
          clear HO121
          have HO_3 := n0_
          have HO_4 := n1_
          have BK112 := n2_
          have HB := n3_
          have HO130 := n4_
          clear n0_ n1_ n2_ n3_ n4_
          clear ho hb hg hat
          obtain ⟨Ao22, co22, eo22⟩ := Kd.R_slice HO130.out
          (first | subst eo22 | (injection eo22 with f1_ f2_ f3_; have f4_ := f1_.symm; have f5_ := f3_.symm; clear f1_ f2_ f3_; subst f4_; subst f5_))
          refine hK.out _ _ ?_
          clear hK K
          refine norm_ (a' := ?_) ?_ ?_
          rotate_left
          ·
           show Act.put _ (some 37) _ = _
           simp only [Act.put, List.setIfInBounds_toArray, List.set_cons_zero, List.set_cons_succ, i64_w, i32_w]
           rfl
          refine last_ (i := 17) (N := some 38) #[true, true, true, true, true, true, true, true, true, true, true, true, true, true, true, true, true, true, false, false] rfl rfl (one_of HT_.out (by kernel_rfl)) (by decide) (fun K hK => ?_)
          refine value_ (w1 := ?_) (v := ?_) (by rfl) rfl ?_ ?_
          rotate_left 2
          ·
           go_simp
           constructor
           ·
            rfl
           ·
            rfl
          refine hK.out _ _ ?_
          clear hK K
          refine norm_ (a' := ?_) ?_ ?_
          rotate_left
          ·
           show Act.put _ (some 38) _ = _
           simp only [Act.put, List.setIfInBounds_toArray, List.set_cons_zero, List.set_cons_succ, i64_w, i32_w]
           rfl
          refine last_ (i := 18) (N := some 39) #[true, true, true, true, true, true, true, true, true, true, true, true, true, true, true, true, true, true, true, false] rfl rfl (one_of HT_.out (by kernel_rfl)) (by decide) (fun K hK => ?_)
          refine Kd.S_append_step (Kd.slice 33 k33) (w0 := w) w.heap.size (by rfl) (.tmp 21) (.tmp 38) 27 22 (.slice none 0 0) 24 rfl Try.underlying27 info22 rfl (by decide) (by omega) u3 x3_1 y128 [.slice Ao22 y128.length co22] (fun _ => True) (fun k_ => some k_ = (.slice Ao22 y128.length co22 : Value).ownBlock) rfl rfl ?aP (fun k_ hk_ => ((Kd.R_mono (ok' := fun k_ => ((fun _ => True)) k_ ∧ some k_ ≠ (u3 : Value).ownBlock) (Kd.R_apart' (HO130.out) (Kd.S_typed HO_3.out) (by decide)) (fun k_ hk => ⟨trivial, hk.2⟩))).1 k_ hk_.symm) ?aF ?aO ?aB ?aS ?aL ?_
          (case aP => exact Kd.M_row (Kd.R_mono (Kd.R_tight rfl (Kd.R_mono (ok' := fun k_ => ((fun _ => True)) k_ ∧ some k_ ≠ (u3 : Value).ownBlock) (Kd.R_apart' (HO130.out) (Kd.S_typed HO_3.out) (by decide)) (fun k_ hk => ⟨trivial, hk.2⟩))) (fun _ h_ => h_)))
          (case aB => exact (by repeat (first | (with_reducible first | exact HB.out | apply bA | apply bN | apply bD | refine bS ?_ GE112.out) | exact HB.out)))
          (case aF => exact (fun _ _ => trivial))
          (case aO => exact (by (with_reducible repeat (first | apply Kd.S_alloc | apply Kd.S_drewN | apply Kd.S_drew)); exact Kd.S_mono HO_3.out (fun k_ hk => ⟨trivial, fun e_ => hk.2 e_⟩)))
          (case aS => exact (below_size (by repeat (first | (with_reducible first | exact HB.out | apply bA | apply bN | apply bD | refine bS ?_ GE112.out) | exact HB.out))))
          (case aL => have := LMc14.out; omega)
          intro v132 w21 ho hb hg hat
          rw [← Ny131.out] at ho
          have n0_ := aM (Kd.R_over' (by (with_reducible repeat (first | apply Kd.R_alloc | apply Kd.R_drewN | apply Kd.R_drew)); exact HO_4.out) (Kd.S_typed (by (with_reducible repeat (first | apply Kd.S_alloc | apply Kd.S_drewN | apply Kd.S_drew)); exact HO_3.out)) (by decide) hg)
          have n1_ := aM (blk_grown (g := gb112) (o := .cells #[.slice A0_0 l0_0.length c0_0, .slice A0_1 l0_1.length c0_1] 25 (0, 0)) (by (with_reducible repeat (first | refine kN ?_ _ | refine kD ?_ | refine kA ?_ _)); exact BK112.out) hg (Kd.S_ne HO_3.out BK112.out (by decide)))
          have n2_ := aM (hb)
          have n3_ := aM (ho)
          clear HO_4
          clear BK112
          clear HB
          clear HO_3
          clear HO130
          have HO_4 := n0_
          have BK112 := n1_
          have HB := n2_
          have HO133 := n3_
          clear n0_ n1_ n2_ n3_
          clear ho hb hg hat
          refine hK.out _ _ ?_
          clear hK K
          refine norm_ (a' := ?_) ?_ ?_
          rotate_left
          ·
           show Act.put _ (some 39) _ = _
           simp only [Act.put, List.setIfInBounds_toArray, List.set_cons_zero, List.set_cons_succ, i64_w, i32_w]
           rfl
          refine pure_ (i := 19) (N := some 3) (v := ?_) (a' := ?_) #[true, true, true, true, true, true, true, true, true, true, true, true, true, true, true, true, true, true, true, true] rfl rfl (any_of HT_.out (by kernel_rfl)) (fun _ _ _ h => h) (Or.inl ⟨by rfl, ?_⟩) ?_ ?_
          rotate_left
          ·
           intro w'
           go_simp
           with_reducible rfl
          rotate_left
          ·
           simp only [Act.put, List.setIfInBounds_toArray, List.set_cons_zero, List.set_cons_succ, i64_w, i32_w]
           rfl
          refine done_ (done_of HT_.out (by kernel_rfl)) ?_
          try go_wp2
          go_roundg k1
          case measure => have := HK1.out; omega
          case rel => exact ⟨(y131), (wrap64 (x5_1 + 1)), (by first | rfl | (simp; done) | (simp [*]; done)), H', ⟨by have := HK1.out; omega⟩, ⟨by (with_reducible repeat (first | apply Kd.S_alloc | apply Kd.S_drewN | apply Kd.S_drew)); exact HO133.out⟩, ⟨by (with_reducible repeat (first | apply Kd.R_alloc | apply Kd.R_drewN | apply Kd.R_drew)); exact HO_4.out⟩, ⟨by (with_reducible repeat (first | refine kN ?_ _ | refine kD ?_ | refine kA ?_ _)); exact BK112.out⟩, ⟨by repeat (first | (with_reducible first | exact HB.out | apply bA | apply bN | apply bD | refine bS ?_ GE112.out) | exact HB.out)⟩⟩
         ·
          rw [if_neg c14] at H
          exact absurd H (by simp)
        ·
         rw [if_neg c13] at H
         exact absurd H (by simp)
       ·
        rw [if_neg c12] at H
        exact absurd H (by simp)
      ·
       rw [if_neg c11] at H
       exact absurd H (by simp)
     ·
      rw [if_neg c10] at H
      exact absurd H (by simp)
    ·
     rw [if_neg c9] at H
     exact absurd H (by simp)
   ·
    rw [if_neg c8] at H
    have c8b0 : decide (x5_1 < (t116.length : Int)) = false := decide_eq_false c8
    clear c8
    obtain rfl := Option.some.inj H
    obtain ⟨Ao23, co23, eo23⟩ := Kd.R_slice HO_4.out
    subst eo23
    go_wp2
    go_ret
    exact ⟨_, by first | rfl | (simp [errW_none, errW_some] <;> rfl) | (simp [*, errW_none, errW_some] <;> rfl), by (with_reducible repeat (first | apply Kd.S_alloc | apply Kd.S_drewN | apply Kd.S_drew)); exact HO_3.out, by repeat (first | (with_reducible first | exact HB.out | apply bA | apply bN | apply bD | refine bS ?_ GE112.out) | exact HB.out)⟩
def fleuronref03_SamePoints.l0 : Nat → List (S33) → List (S33) → Int → Option (Bool)
 | 0, _, _, _ => none
 | k + 1, x0, x1, x5 => if x5 < (x0.length : Int) then (if 0 ≤ x5 then (if x5 < (x1.length : Int) then (if (!(((rd_T33 x0 x5).f0) == ((rd_T33 x1 x5).f0)) || (!(((rd_T33 x0 x5).f1) == ((rd_T33 x1 x5).f1)) || (!(((rd_T33 x0 x5).f2) == ((rd_T33 x1 x5).f2))))) = true then (some false) else (fleuronref03_SamePoints.l0 k x0 x1 (wrap64 (x5 + 1)))) else (none)) else (none)) else (some true)
def fleuronref03_SamePoints.f (k : Nat) (l0 : List (S33)) (l1 : List (S33)) : Option (Bool) := if (l0.length : Int) = (l1.length : Int) then (fleuronref03_SamePoints.l0 k l0 l1 0) else (some false)
theorem fleuronref03_SamePoints.mono_l : ∀ k, (∀ y0 y1 y2, LeO (fleuronref03_SamePoints.l0 k y0 y1 y2) (fleuronref03_SamePoints.l0 (k + 1) y0 y1 y2))
 | 0 => fun _ _ _ r h => by simp [fleuronref03_SamePoints.l0] at h
 | k + 1 => by
  have ih0 := fleuronref03_SamePoints.mono_l k
  ·
   intro y0 y1 y2
   unfold fleuronref03_SamePoints.l0
   repeat' first
   | (with_reducible exact ih0 _ _ _)
   | (with_reducible exact LeO.refl _)
   | (with_reducible exact LeO.none _)
   | (with_reducible refine LeO.ite ?_ ?_)
   | (with_reducible refine LeO.bind ?_ (fun _ => ?_))
   | exact ih0 _ _ _
   | exact LeO.none _
   | refine LeO.ite ?_ ?_
   | refine LeO.bind ?_ (fun _ => ?_)
theorem fleuronref03_SamePoints.mono : ∀ a0 a1 k, LeO (fleuronref03_SamePoints.f k a0 a1) (fleuronref03_SamePoints.f (k + 1) a0 a1) := by
 intro a0 a1 k
 have ih0 := fleuronref03_SamePoints.mono_l k
 unfold fleuronref03_SamePoints.f
 repeat' first
   | (with_reducible exact ih0 _ _ _)
   | (with_reducible exact LeO.refl _)
   | (with_reducible exact LeO.none _)
   | (with_reducible refine LeO.ite ?_ ?_)
   | (with_reducible refine LeO.bind ?_ (fun _ => ?_))
   | exact ih0 _ _ _
   | exact LeO.none _
   | refine LeO.ite ?_ ?_
   | refine LeO.bind ?_ (fun _ => ?_)
set_option maxHeartbeats 8000000 in
set_option maxRecDepth 100000 in
theorem fleuronref03_SamePoints.calls (k : Nat) (A0 : Option Addr) (c0 : Nat) (l0 : List (S33)) (A1 : Option Addr) (c1 : Nat) (l1 : List (S33)) (r : Bool) (w : World) (hr0 : Kd.C k33 w A0 l0.length l0) (hc0 : l0.length ≤ c0) (hr1 : Kd.C k33 w A1 l1.length l1) (hc1 : l1.length ≤ c1) (h : fleuronref03_SamePoints.f k l0 l1 = some r) :
  Calls Try.prog 18 #[.slice A0 l0.length c0, .slice A1 l1.length c1] w fun e w' => e = .returned (.bool r) ∧ Drawn0 w w' := by
 have hu33 := Try.underlying33
 have HR0 := aM hr0
 have HC0 := aM hc0
 clear hr0 hc0
 have HR1 := aM hr1
 have HC1 := aM hc1
 clear hr1 hc1
 have H : (if (l0.length : Int) = (l1.length : Int) then (fleuronref03_SamePoints.l0 k l0 l1 0) else (some false)) = some r := h
 clear h
 by_cases c3 : (l0.length : Int) = (l1.length : Int)
 ·
  rw [if_pos c3] at H
  have c3b0 : ((l0.length : Int) == (l1.length : Int)) = true := beq_iff_eq.mpr c3
  have c3b1 : ((l0.length : Int) != (l1.length : Int)) = false := bne_eq_false_iff_eq.mpr c3
  have c3b2 : (l0.length == l1.length) = true := by first | simpa using c3 | (simp at c3 ⊢; omega)
  clear c3
  have H' := aM H
  clear H
  go_enter Try.func18, Try.ntmps18
  go_wp2
  repeat (go_quiet (fail); try go_wp2)
  go_loopg [5] k (fun kq v5 w' => ∃ (x5_1 : Int), v5 = .int .i64 x5_1 ∧ Aside0 (fleuronref03_SamePoints.l0 kq l0 l1 x5_1 = some r) ∧ Aside0 (kq ≤ k) ∧ Drawn0 w w')
  case atStart => exact ⟨(0), (by first | rfl | (simp; done) | (simp [*]; done)), H', ⟨Nat.le_refl _⟩, by repeat (first | exact Drawn0.refl _ | apply Drawn0.step)⟩
  case round =>
   clear H'
   try clear c1
   try clear p2
   try clear c3
   try clear c3b0
   try clear c3b1
   try clear c3b2
   obtain ⟨x5_1, rfl, HA, HK1, ⟨m1, rfl⟩⟩ := hrel
   cases gk with
   | zero => exact absurd HA.out (by simp [fleuronref03_SamePoints.l0])
   | succ k1 =>
    have H := HA.out
    clear HA
    simp only [fleuronref03_SamePoints.l0] at H
    by_cases c4 : x5_1 < (l0.length : Int)
    ·
     rw [if_pos c4] at H
     have c4b0 : decide (x5_1 < (l0.length : Int)) = true := decide_eq_true c4
     clear c4
     by_cases c5 : 0 ≤ x5_1
     ·
      rw [if_pos c5] at H
      have c5b0 : decide (0 ≤ x5_1) = true := decide_eq_true c5
      clear c5
      by_cases c6 : x5_1 < (l1.length : Int)
      ·
       rw [if_pos c6] at H
       have c6b0 : decide (x5_1 < (l1.length : Int)) = true := decide_eq_true c6
       clear c6
       by_cases c7 : (!(((rd_T33 l0 x5_1).f0) == ((rd_T33 l1 x5_1).f0)) || (!(((rd_T33 l0 x5_1).f1) == ((rd_T33 l1 x5_1).f1)) || (!(((rd_T33 l0 x5_1).f2) == ((rd_T33 l1 x5_1).f2))))) = true
       ·
        rw [if_pos c7] at H
        have c7b0 : (!(((rd_T33 l0 x5_1).f0) == ((rd_T33 l1 x5_1).f0)) || (!(((rd_T33 l0 x5_1).f1) == ((rd_T33 l1 x5_1).f1)) || (!(((rd_T33 l0 x5_1).f2) == ((rd_T33 l1 x5_1).f2))))) = true := c7
        clear c7
        obtain rfl := Option.some.inj H
        have p134 : 0 ≤ (x5_1 : Int) := dT (by assumption)
        have q134 : x5_1 < (l0.length : Int) := dT (by assumption)
        obtain ⟨ad134, e134, hx134_0, hx134_1, hx134_2⟩ := at_T33 HR0.out x5_1 p134 q134
        cases e134
        replace p134 := eq_true p134
        replace q134 := eq_true q134
        have p135 : 0 ≤ (x5_1 : Int) := dT (by assumption)
        have q135 : x5_1 < (l1.length : Int) := dT (by assumption)
        obtain ⟨ad135, e135, hx135_0, hx135_1, hx135_2⟩ := at_T33 HR1.out x5_1 p135 q135
        cases e135
        replace p135 := eq_true p135
        replace q135 := eq_true q135
        go_wp2
        repeat (go_quiet (fail); try go_wp2)
        go_ret
        exact ⟨by first | rfl | (simp; done) | (simp [*]; done), by repeat (first | exact Drawn0.refl _ | apply Drawn0.step)⟩
       ·
        rw [if_neg c7] at H
        have c7b0 : (!(((rd_T33 l0 x5_1).f0) == ((rd_T33 l1 x5_1).f0)) || (!(((rd_T33 l0 x5_1).f1) == ((rd_T33 l1 x5_1).f1)) || (!(((rd_T33 l0 x5_1).f2) == ((rd_T33 l1 x5_1).f2))))) = false := by simpa using c7
        clear c7
        have H' := aM H
        clear H
        have p134 : 0 ≤ (x5_1 : Int) := dT (by assumption)
        have q134 : x5_1 < (l0.length : Int) := dT (by assumption)
        obtain ⟨ad134, e134, hx134_0, hx134_1, hx134_2⟩ := at_T33 HR0.out x5_1 p134 q134
        cases e134
        replace p134 := eq_true p134
        replace q134 := eq_true q134
        have p135 : 0 ≤ (x5_1 : Int) := dT (by assumption)
        have q135 : x5_1 < (l1.length : Int) := dT (by assumption)
        obtain ⟨ad135, e135, hx135_0, hx135_1, hx135_2⟩ := at_T33 HR1.out x5_1 p135 q135
        cases e135
        replace p135 := eq_true p135
        replace q135 := eq_true q135
        go_wp2
        repeat (go_quiet (fail); try go_wp2)
        go_roundg k1
        case measure => have := HK1.out; omega
        case rel => exact ⟨(wrap64 (x5_1 + 1)), (by first | rfl | (simp; done) | (simp [*]; done)), H', ⟨by have := HK1.out; omega⟩, by repeat (first | exact Drawn0.refl _ | apply Drawn0.step)⟩
      ·
       rw [if_neg c6] at H
       exact absurd H (by simp)
     ·
      rw [if_neg c5] at H
      exact absurd H (by simp)
    ·
     rw [if_neg c4] at H
     have c4b0 : decide (x5_1 < (l0.length : Int)) = false := decide_eq_false c4
     clear c4
     obtain rfl := Option.some.inj H
     go_wp2
     repeat (go_quiet (fail); try go_wp2)
     go_ret
     exact ⟨by first | rfl | (simp; done) | (simp [*]; done), by repeat (first | exact Drawn0.refl _ | apply Drawn0.step)⟩
 ·
  rw [if_neg c3] at H
  have c3b0 : ((l0.length : Int) == (l1.length : Int)) = false := beq_eq_false_iff_ne.mpr c3
  have c3b1 : ((l0.length : Int) != (l1.length : Int)) = true := bne_iff_ne.mpr c3
  have c3b2 : (l0.length == l1.length) = false := by first | simpa using c3 | (simp at c3 ⊢; omega)
  obtain rfl := Option.some.inj H
  go_enter Try.func18, Try.ntmps18
  go_wp2
  repeat (go_quiet (fail); try go_wp2)
  go_ret
  exact ⟨by first | rfl | (simp; done) | (simp [*]; done), by repeat (first | exact Drawn0.refl _ | apply Drawn0.step)⟩
end Go.Proofs.Ytbmklpcheopgoaa.H
