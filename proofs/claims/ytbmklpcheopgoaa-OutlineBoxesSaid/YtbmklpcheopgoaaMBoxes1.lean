/- Texts of this session, one behind the other, for the statement OutlineBoxes: what its functions compute, plain facts, and (last) its row. No condition besides those stated. -/
import Derived.Test.YtbmklpcheopgoaaWWords
import Derived.Test.YtbmklpcheopgoaaWLast
import Derived.Test.YtbmklpcheopgoaaWApart
import Derived.Test.YtbmklpcheopgoaaProg
import Derived.Below
import Derived.Deep.Draws
import Derived.Deep.AppendLies
import Derived.Maps.AppendAt
import Derived.OwnWalk
import Derived.Laws.BytesArg
import Derived.Laws.MakeOwn
import Derived.Laws.OwnMore
import Derived.Deep.OwnRows
import Derived.Tactics
import Derived.Lib.ConvBytes
import Derived.Laws.Slices
import Derived.WalkKit
import Derived.KernelRfl
import Derived.RowKit3
import Derived.Deep.LoopGhost
import Derived.Deep.QuietTactic
import Derived.BigQuiet
import Derived.WideLaws
import Derived.Deep.DeepCutAuto
import Derived.Deep.CutBlock
import Derived.Deep.RegionHeld3
import Derived.Laws.Rows
import Derived.Lib.AppendStr
import Derived.ArgAppend
import Derived.Laws.IdiomCopy
import Derived.OrdersHeld
import Derived.Laws.BitsLemmas
import Derived.RowKit
import Derived.Test.YtbmklpcheopgoaaWTab
import Derived.Test.YtbmklpcheopgoaaWEqStruct
import Derived.Test.YtbmklpcheopgoaaWRepsOne
import Derived.Test.YtbmklpcheopgoaaWGuard
import Derived.ChangeKeysEq
import Derived.RangeFuncNested
import Derived.RangeFuncBound
import Derived.RangeFuncCalls
import Derived.RangeFuncLeaves
import Derived.OwnWalkIn
import Derived.Lib.Hide
import Derived.OrdersIn
import Derived.WalkSpells
set_option linter.unusedVariables false
set_option linter.unusedSimpArgs false
namespace Go.Proofs.YtbmklpcheopgoaaW.PrintMore
open Go.RowKit Go.Proofs.YtbmklpcheopgoaaW.PrintWords
theorem max2_int (k k' : IntKind) (x y : Int) : Builtin.max2 (.int k x) (.int k' y) = pure (.int k (if x < y then y else x)) := by simp only [Builtin.max2, gt_iff_lt]
theorem min2_int (k k' : IntKind) (x y : Int) : Builtin.min2 (.int k x) (.int k' y) = pure (.int k (if y < x then y else x)) := by simp only [Builtin.min2]
theorem max_two (ats : Array TypeId) (ty : TypeId) (a b : Value) : Builtin.max_ ats ty #[a, b] = (Builtin.max2 a b >>= fun s => pure s) := by simp only [Builtin.max_, List.foldlM_cons, List.foldlM_nil]
theorem min_two (ats : Array TypeId) (ty : TypeId) (a b : Value) : Builtin.min_ ats ty #[a, b] = (Builtin.min2 a b >>= fun s => pure s) := by simp only [Builtin.min_, List.foldlM_cons, List.foldlM_nil]
theorem max_three (ats : Array TypeId) (ty : TypeId) (a b c : Value) : Builtin.max_ ats ty #[a, b, c] = (Builtin.max2 a b >>= fun s => Builtin.max2 s c >>= fun s => pure s) := by simp only [Builtin.max_, List.foldlM_cons, List.foldlM_nil]
theorem min_three (ats : Array TypeId) (ty : TypeId) (a b c : Value) : Builtin.min_ ats ty #[a, b, c] = (Builtin.min2 a b >>= fun s => Builtin.min2 s c >>= fun s => pure s) := by simp only [Builtin.min_, List.foldlM_cons, List.foldlM_nil]
theorem max_four (ats : Array TypeId) (ty : TypeId) (a b c d : Value) : Builtin.max_ ats ty #[a, b, c, d] = (Builtin.max2 a b >>= fun s => Builtin.max2 s c >>= fun s => Builtin.max2 s d >>= fun s => pure s) := by simp only [Builtin.max_, List.foldlM_cons, List.foldlM_nil]
theorem min_four (ats : Array TypeId) (ty : TypeId) (a b c d : Value) : Builtin.min_ ats ty #[a, b, c, d] = (Builtin.min2 a b >>= fun s => Builtin.min2 s c >>= fun s => Builtin.min2 s d >>= fun s => pure s) := by simp only [Builtin.min_, List.foldlM_cons, List.foldlM_nil]
def mx (a b : Int) : Int := if a < b then b else a
def mn (a b : Int) : Int := if b < a then b else a
end Go.Proofs.YtbmklpcheopgoaaW.PrintMore
namespace Go.Proofs.YtbmklpcheopgoaaW.PrintWords
open Go.RowKit
theorem gate_callee {P : Program} {ops : Array Oper} {rest : List Oper} {o : Oper} {a : Act} {Q : Exit → Act → World → Prop} {W : World} {f : FuncId} {avs : Array Operand} {ts : Array TypeId} (_ho : o.op = .call { callee := .value (.func f), args := avs, argTypes := ts }) (h : wpList P ops Q (o :: rest) a W) : wpList P ops Q (o :: rest) a W := h
theorem gate_builtin {P : Program} {ops : Array Oper} {rest : List Oper} {o : Oper} {a : Act} {Q : Exit → Act → World → Prop} {W : World} {b : Builtin} {xs : Array Operand} {ts : Array TypeId} (_ho : o.op = .call { callee := .builtin b, args := xs, argTypes := ts }) (h : wpList P ops Q (o :: rest) a W) : wpList P ops Q (o :: rest) a W := h
/-! Short names. -/
theorem bA {w W : World} (h : Below w.heap.size w W) (o : Obj) : Below w.heap.size w (W.alloc o) := below_alloc h o
theorem bN {B : Nat} {w W : World} (h : Below B w W) (n : Nat) : Below B w (W.drewN n) := pw_below_drewN h n
theorem bD {base : Nat} {w W : World} (h : Below base w W) : Below base w W.drew := below_drew1 h
theorem bS {w W : World} {g j : Nat} {v : Value} (h : Below w.heap.size w W) (hg : w.heap.size ≤ g) : Below w.heap.size w (W.setCell ⟨g, j, none⟩ v) := below_set h hg
theorem kA {w : World} {g : Nat} {o : Obj} (h : w.heap[g]? = some o) (o' : Obj) : (w.alloc o').heap[g]? = some o := blk_alloc h o'
theorem kN {w : World} {g : Nat} {o : Obj} (h : w.heap[g]? = some o) (n : Nat) : (w.drewN n).heap[g]? = some o := blk_drewN h n
theorem kD {w : World} {g : Nat} {o : Obj} (h : w.heap[g]? = some o) : w.drew.heap[g]? = some o := blk_drew h
theorem aM {p : Prop} (h : p) : Aside0 p := ⟨h⟩
theorem dT {p : Prop} [Decidable p] (h : decide p = true) : p := of_decide_eq_true h
end Go.Proofs.YtbmklpcheopgoaaW.PrintWords

namespace Go.Proofs.Ytbmklpcheopgoaa.H
open Go.RowKit Go.Proofs.YtbmklpcheopgoaaW.PrintWords Go.Proofs.YtbmklpcheopgoaaW.PrintLast Go.Proofs.YtbmklpcheopgoaaW.PrintMore
attribute [local go_sem] max2_int min2_int max_two min_two max_three min_three max_four min_four
set_option linter.unusedVariables false
set_option linter.unusedSimpArgs false
def errW : Option Int → Value
 | none => .nilIface
 | some c => .iface 0 (.int .i64 c)
theorem errW_none : errW none = .nilIface := rfl
theorem errW_some (c : Int) : errW (some c) = .iface 0 (.int .i64 c) := rfl
theorem info3 : (Try.prog.info? 3).map (fun i => (i.zero, i.size, i.bytes)) = some (some (.int .i64 0), 1, 8) := by kernel_rfl
theorem info4 : (Try.prog.info? 4).map (fun i => (i.zero, i.size, i.bytes)) = some (some (.bool false), 1, 1) := by kernel_rfl
theorem info22 : (Try.prog.info? 22).map (fun i => (i.zero, i.size, i.bytes)) = some (some (.slice none 0 0), 1, 24) := by kernel_rfl
theorem info33 : (Try.prog.info? 33).map (fun i => (i.zero, i.size, i.bytes)) = some (some (.agg #[(.int .i64 0), (.int .i64 0), (.bool false)]), 3, 24) := by kernel_rfl
theorem info42 : (Try.prog.info? 42).map (fun i => (i.zero, i.size, i.bytes)) = some (some (.slice none 0 0), 1, 24) := by kernel_rfl
theorem info52 : (Try.prog.info? 52).map (fun i => (i.zero, i.size, i.bytes)) = some (some (.agg #[(.int .i64 0), (.int .i64 0)]), 2, 16) := by kernel_rfl
theorem info64 : (Try.prog.info? 64).map (fun i => (i.zero, i.size, i.bytes)) = some (some (.agg #[(.int .i64 0), (.int .i64 0)]), 2, 16) := by kernel_rfl
theorem info101 : (Try.prog.info? 101).map (fun i => (i.zero, i.size, i.bytes)) = some (some (.agg #[(.int .i64 0), (.int .i64 0), (.bool false)]), 3, 24) := by kernel_rfl
theorem info106 : (Try.prog.info? 106).map (fun i => (i.zero, i.size, i.bytes)) = some (some (.agg #[(.int .i64 0), (.int .i64 0), (.bool false)]), 3, 24) := by kernel_rfl
-- the values' own types
structure S33 where
 f0 : Int
 f1 : Int
 f2 : Bool
def z33 : S33 := ⟨(0 : Int), (0 : Int), false⟩
def k33 : Kd S33 := Kd.iso (Kd.pair (Kd.int .i64) (Kd.pair (Kd.int .i64) Kd.bool)) (fun x : S33 => (x.f0, x.f1, x.f2))
theorem k33_open {w : World} {x : S33} {cs : List Value} (h : k33.K w x cs) : cs = [.int .i64 x.f0, .int .i64 x.f1, .bool x.f2] := by
 obtain ⟨_, _, rfl, rfl, ⟨_, _, rfl, rfl, rfl⟩⟩ := h
 exact rfl
theorem k33_openM {w : World} {base : Nat} {ok : Nat → Prop} {x : S33} {cs : List Value} (h : k33.M w base ok x cs) : cs = [.int .i64 x.f0, .int .i64 x.f1, .bool x.f2] := by
 obtain ⟨_, _, rfl, rfl, ⟨_, _, rfl, rfl, rfl⟩⟩ := h
 exact rfl
theorem k33_mk (w : World) (x : S33)  : k33.K w x [.int .i64 x.f0, .int .i64 x.f1, .bool x.f2] := ⟨[.int .i64 x.f0], [.int .i64 x.f1, .bool x.f2], rfl, rfl, ⟨[.int .i64 x.f1], [.bool x.f2], rfl, rfl, rfl⟩⟩
theorem k33_mkM (w : World) (base : Nat) (ok : Nat → Prop) (x : S33)  : k33.M w base ok x [.int .i64 x.f0, .int .i64 x.f1, .bool x.f2] := ⟨[.int .i64 x.f0], [.int .i64 x.f1, .bool x.f2], rfl, rfl, ⟨[.int .i64 x.f1], [.bool x.f2], rfl, rfl, rfl⟩⟩
def rd_T33 (xs : List S33) (i : Int) : S33 := xs.getD i.toNat z33
theorem at_T33 {w : World} {A : Option Addr} {n : Nat} {xs : List S33} (h : Kd.C k33 w A n xs) (i : Int) (h0 : 0 ≤ i) (h1 : i < n) : ∃ ad , A = some ad ∧ w.cell? (ad.add (i.toNat * 3)) = some (.int .i64 (rd_T33 xs i).f0) ∧ w.cell? ⟨(ad.add (i.toNat * 3)).block, (ad.add (i.toNat * 3)).off + 1, none⟩ = some (.int .i64 (rd_T33 xs i).f1) ∧ w.cell? ⟨(ad.add (i.toNat * 3)).block, (ad.add (i.toNat * 3)).off + 2, none⟩ = some (.bool (rd_T33 xs i).f2) := by
 obtain ⟨ad, c, e, _, hK, hc0⟩ := Kd.C_get h z33 i h0 h1
 have hc : ∀ j u, c[j]? = some u → w.cell? (ad.add (i.toNat * 3 + j)) = some u := hc0
 obtain rfl := k33_open hK
 exact ⟨ad, e, hc 0 _ rfl, by rw [← add_field _ _ 1 (by omega)]; exact hc 1 _ rfl, by rw [← add_field _ _ 2 (by omega)]; exact hc 2 _ rfl⟩
def rd_L3 (xs : List (List S33)) (i : Int) : (List S33) := xs.getD i.toNat ([] : List S33)
theorem at_L3 {w : World} {A : Option Addr} {n : Nat} {xs : List (List S33)} (h : Kd.C (Kd.slice 33 k33) w A n xs) (i : Int) (h0 : 0 ≤ i) (h1 : i < n) : ∃ ad A0 c0, A = some ad ∧ w.cell? (ad.add i.toNat) = some (.slice A0 (rd_L3 xs i).length c0) ∧ (rd_L3 xs i).length ≤ c0 ∧ k33.C w A0 (rd_L3 xs i).length (rd_L3 xs i) := by
 obtain ⟨ad, c, e, _, hK, hc0⟩ := Kd.C_get h ([] : List S33) i h0 h1
 have hc : ∀ j u, c[j]? = some u → w.cell? (ad.add (i.toNat * 1 + j)) = some u := hc0
 obtain ⟨A0, c0, rfl, l0, g0⟩ := hK
 exact ⟨ad, A0, c0, e, by have hq := hc 0 _ rfl; rwa [Nat.mul_one, Nat.add_zero] at hq, l0, g0⟩
def rd_L4 (xs : List (List Int)) (i : Int) : (List Int) := xs.getD i.toNat ([] : List Int)
theorem at_L4 {w : World} {A : Option Addr} {n : Nat} {xs : List (List Int)} (h : Kd.C (Kd.slice 3 (Kd.int .i64)) w A n xs) (i : Int) (h0 : 0 ≤ i) (h1 : i < n) : ∃ ad A0 c0, A = some ad ∧ w.cell? (ad.add i.toNat) = some (.slice A0 (rd_L4 xs i).length c0) ∧ (rd_L4 xs i).length ≤ c0 ∧ (Kd.int .i64).C w A0 (rd_L4 xs i).length (rd_L4 xs i) := by
 obtain ⟨ad, c, e, _, hK, hc0⟩ := Kd.C_get h ([] : List Int) i h0 h1
 have hc : ∀ j u, c[j]? = some u → w.cell? (ad.add (i.toNat * 1 + j)) = some u := hc0
 obtain ⟨A0, c0, rfl, l0, g0⟩ := hK
 exact ⟨ad, A0, c0, e, by have hq := hc 0 _ rfl; rwa [Nat.mul_one, Nat.add_zero] at hq, l0, g0⟩
structure S25 where
 f0 : (List S33)
 f1 : (List Int)
def z25 : S25 := ⟨([] : List S33), ([] : List Int)⟩
def k25 : Kd S25 := Kd.iso (Kd.pair (Kd.slice 33 k33) (Kd.slice 3 (Kd.int .i64))) (fun x : S25 => (x.f0, x.f1))
theorem k25_open {w : World} {x : S25} {cs : List Value} (h : k25.K w x cs) : ∃ A0 c0 A1 c1, cs = [.slice A0 x.f0.length c0, .slice A1 x.f1.length c1] ∧ x.f0.length ≤ c0 ∧ k33.C w A0 x.f0.length x.f0 ∧ x.f1.length ≤ c1 ∧ (Kd.int .i64).C w A1 x.f1.length x.f1 := by
 obtain ⟨_, _, rfl, ⟨A0, c0, rfl, l0, g0⟩, ⟨A1, c1, rfl, l1, g1⟩⟩ := h
 exact ⟨A0, c0, A1, c1, rfl, l0, g0, l1, g1⟩
theorem k25_openM {w : World} {base : Nat} {ok : Nat → Prop} {x : S25} {cs : List Value} (h : k25.M w base ok x cs) : ∃ v0 v1, cs = [v0, v1] ∧ k33.R 33 w base ok v0 x.f0 ∧ (Kd.int .i64).R 3 w base ok v1 x.f1 := by
 obtain ⟨_, _, rfl, ⟨v0, rfl, g0⟩, ⟨v1, rfl, g1⟩⟩ := h
 exact ⟨v0, v1, rfl, g0, g1⟩
theorem k25_mk (w : World) (x : S25) {A0 : Option Addr} {c0 : Nat} (l0 : x.f0.length ≤ c0) (g0 : k33.C w A0 x.f0.length x.f0) {A1 : Option Addr} {c1 : Nat} (l1 : x.f1.length ≤ c1) (g1 : (Kd.int .i64).C w A1 x.f1.length x.f1) : k25.K w x [.slice A0 x.f0.length c0, .slice A1 x.f1.length c1] := ⟨[.slice A0 x.f0.length c0], [.slice A1 x.f1.length c1], rfl, ⟨A0, c0, rfl, l0, g0⟩, ⟨A1, c1, rfl, l1, g1⟩⟩
theorem k25_mkM (w : World) (base : Nat) (ok : Nat → Prop) (x : S25) {v0 : Value} (g0 : k33.R 33 w base ok v0 x.f0) {v1 : Value} (g1 : (Kd.int .i64).R 3 w base ok v1 x.f1) : k25.M w base ok x [v0, v1] := ⟨[v0], [v1], rfl, ⟨v0, rfl, g0⟩, ⟨v1, rfl, g1⟩⟩
def rd_T25 (xs : List S25) (i : Int) : S25 := xs.getD i.toNat z25
theorem at_T25 {w : World} {A : Option Addr} {n : Nat} {xs : List S25} (h : Kd.C k25 w A n xs) (i : Int) (h0 : 0 ≤ i) (h1 : i < n) : ∃ ad A0 c0 A1 c1, A = some ad ∧ w.cell? (ad.add (i.toNat * 2)) = some (.slice A0 (rd_T25 xs i).f0.length c0) ∧ w.cell? ⟨(ad.add (i.toNat * 2)).block, (ad.add (i.toNat * 2)).off + 1, none⟩ = some (.slice A1 (rd_T25 xs i).f1.length c1) ∧ (rd_T25 xs i).f0.length ≤ c0 ∧ k33.C w A0 (rd_T25 xs i).f0.length (rd_T25 xs i).f0 ∧ (rd_T25 xs i).f1.length ≤ c1 ∧ (Kd.int .i64).C w A1 (rd_T25 xs i).f1.length (rd_T25 xs i).f1 := by
 obtain ⟨ad, c, e, _, hK, hc0⟩ := Kd.C_get h z25 i h0 h1
 have hc : ∀ j u, c[j]? = some u → w.cell? (ad.add (i.toNat * 2 + j)) = some u := hc0
 obtain ⟨A0, c0, A1, c1, rfl, l0, g0, l1, g1⟩ := k25_open hK
 exact ⟨ad, A0, c0, A1, c1, e, hc 0 _ rfl, by rw [← add_field _ _ 1 (by omega)]; exact hc 1 _ rfl, l0, g0, l1, g1⟩
def rd_L6 (xs : List (List (List S33))) (i : Int) : (List (List S33)) := xs.getD i.toNat ([] : List (List S33))
theorem at_L6 {w : World} {A : Option Addr} {n : Nat} {xs : List (List (List S33))} (h : Kd.C (Kd.slice 22 (Kd.slice 33 k33)) w A n xs) (i : Int) (h0 : 0 ≤ i) (h1 : i < n) : ∃ ad A0 c0, A = some ad ∧ w.cell? (ad.add i.toNat) = some (.slice A0 (rd_L6 xs i).length c0) ∧ (rd_L6 xs i).length ≤ c0 ∧ (Kd.slice 33 k33).C w A0 (rd_L6 xs i).length (rd_L6 xs i) := by
 obtain ⟨ad, c, e, _, hK, hc0⟩ := Kd.C_get h ([] : List (List S33)) i h0 h1
 have hc : ∀ j u, c[j]? = some u → w.cell? (ad.add (i.toNat * 1 + j)) = some u := hc0
 obtain ⟨A0, c0, rfl, l0, g0⟩ := hK
 exact ⟨ad, A0, c0, e, by have hq := hc 0 _ rfl; rwa [Nat.mul_one, Nat.add_zero] at hq, l0, g0⟩
structure S64 where
 f0 : Int
 f1 : Int
def z64 : S64 := ⟨(0 : Int), (0 : Int)⟩
def k64 : Kd S64 := Kd.iso (Kd.pair (Kd.int .i64) (Kd.int .i64)) (fun x : S64 => (x.f0, x.f1))
theorem k64_open {w : World} {x : S64} {cs : List Value} (h : k64.K w x cs) : cs = [.int .i64 x.f0, .int .i64 x.f1] := by
 obtain ⟨_, _, rfl, rfl, rfl⟩ := h
 exact rfl
theorem k64_openM {w : World} {base : Nat} {ok : Nat → Prop} {x : S64} {cs : List Value} (h : k64.M w base ok x cs) : cs = [.int .i64 x.f0, .int .i64 x.f1] := by
 obtain ⟨_, _, rfl, rfl, rfl⟩ := h
 exact rfl
theorem k64_mk (w : World) (x : S64)  : k64.K w x [.int .i64 x.f0, .int .i64 x.f1] := ⟨[.int .i64 x.f0], [.int .i64 x.f1], rfl, rfl, rfl⟩
theorem k64_mkM (w : World) (base : Nat) (ok : Nat → Prop) (x : S64)  : k64.M w base ok x [.int .i64 x.f0, .int .i64 x.f1] := ⟨[.int .i64 x.f0], [.int .i64 x.f1], rfl, rfl, rfl⟩
def rd_T64 (xs : List S64) (i : Int) : S64 := xs.getD i.toNat z64
theorem at_T64 {w : World} {A : Option Addr} {n : Nat} {xs : List S64} (h : Kd.C k64 w A n xs) (i : Int) (h0 : 0 ≤ i) (h1 : i < n) : ∃ ad , A = some ad ∧ w.cell? (ad.add (i.toNat * 2)) = some (.int .i64 (rd_T64 xs i).f0) ∧ w.cell? ⟨(ad.add (i.toNat * 2)).block, (ad.add (i.toNat * 2)).off + 1, none⟩ = some (.int .i64 (rd_T64 xs i).f1) := by
 obtain ⟨ad, c, e, _, hK, hc0⟩ := Kd.C_get h z64 i h0 h1
 have hc : ∀ j u, c[j]? = some u → w.cell? (ad.add (i.toNat * 2 + j)) = some u := hc0
 obtain rfl := k64_open hK
 exact ⟨ad, e, hc 0 _ rfl, by rw [← add_field _ _ 1 (by omega)]; exact hc 1 _ rfl⟩
structure S52 where
 f0 : Int
 f1 : Int
def z52 : S52 := ⟨(0 : Int), (0 : Int)⟩
def k52 : Kd S52 := Kd.iso (Kd.pair (Kd.int .i64) (Kd.int .i64)) (fun x : S52 => (x.f0, x.f1))
theorem k52_open {w : World} {x : S52} {cs : List Value} (h : k52.K w x cs) : cs = [.int .i64 x.f0, .int .i64 x.f1] := by
 obtain ⟨_, _, rfl, rfl, rfl⟩ := h
 exact rfl
theorem k52_openM {w : World} {base : Nat} {ok : Nat → Prop} {x : S52} {cs : List Value} (h : k52.M w base ok x cs) : cs = [.int .i64 x.f0, .int .i64 x.f1] := by
 obtain ⟨_, _, rfl, rfl, rfl⟩ := h
 exact rfl
theorem k52_mk (w : World) (x : S52)  : k52.K w x [.int .i64 x.f0, .int .i64 x.f1] := ⟨[.int .i64 x.f0], [.int .i64 x.f1], rfl, rfl, rfl⟩
theorem k52_mkM (w : World) (base : Nat) (ok : Nat → Prop) (x : S52)  : k52.M w base ok x [.int .i64 x.f0, .int .i64 x.f1] := ⟨[.int .i64 x.f0], [.int .i64 x.f1], rfl, rfl, rfl⟩
def rd_T52 (xs : List S52) (i : Int) : S52 := xs.getD i.toNat z52
theorem at_T52 {w : World} {A : Option Addr} {n : Nat} {xs : List S52} (h : Kd.C k52 w A n xs) (i : Int) (h0 : 0 ≤ i) (h1 : i < n) : ∃ ad , A = some ad ∧ w.cell? (ad.add (i.toNat * 2)) = some (.int .i64 (rd_T52 xs i).f0) ∧ w.cell? ⟨(ad.add (i.toNat * 2)).block, (ad.add (i.toNat * 2)).off + 1, none⟩ = some (.int .i64 (rd_T52 xs i).f1) := by
 obtain ⟨ad, c, e, _, hK, hc0⟩ := Kd.C_get h z52 i h0 h1
 have hc : ∀ j u, c[j]? = some u → w.cell? (ad.add (i.toNat * 2 + j)) = some u := hc0
 obtain rfl := k52_open hK
 exact ⟨ad, e, hc 0 _ rfl, by rw [← add_field _ _ 1 (by omega)]; exact hc 1 _ rfl⟩
structure S101 where
 f0 : S52
 f1 : Bool
def z101 : S101 := ⟨z52, false⟩
def k101 : Kd S101 := Kd.iso (Kd.pair k52 Kd.bool) (fun x : S101 => (x.f0, x.f1))
theorem k101_open {w : World} {x : S101} {cs : List Value} (h : k101.K w x cs) : cs = [.int .i64 x.f0.f0, .int .i64 x.f0.f1, .bool x.f1] := by
 obtain ⟨_, _, rfl, s0, rfl⟩ := h
 obtain rfl := k52_open s0
 exact rfl
theorem k101_openM {w : World} {base : Nat} {ok : Nat → Prop} {x : S101} {cs : List Value} (h : k101.M w base ok x cs) : cs = [.int .i64 x.f0.f0, .int .i64 x.f0.f1, .bool x.f1] := by
 obtain ⟨_, _, rfl, s0, rfl⟩ := h
 obtain rfl := k52_openM s0
 exact rfl
theorem k101_mk (w : World) (x : S101)  : k101.K w x [.int .i64 x.f0.f0, .int .i64 x.f0.f1, .bool x.f1] := ⟨[.int .i64 x.f0.f0, .int .i64 x.f0.f1], [.bool x.f1], rfl, (k52_mk w x.f0 ), rfl⟩
theorem k101_mkM (w : World) (base : Nat) (ok : Nat → Prop) (x : S101)  : k101.M w base ok x [.int .i64 x.f0.f0, .int .i64 x.f0.f1, .bool x.f1] := ⟨[.int .i64 x.f0.f0, .int .i64 x.f0.f1], [.bool x.f1], rfl, (k52_mkM w base ok x.f0 ), rfl⟩
def rd_T101 (xs : List S101) (i : Int) : S101 := xs.getD i.toNat z101
theorem at_T101 {w : World} {A : Option Addr} {n : Nat} {xs : List S101} (h : Kd.C k101 w A n xs) (i : Int) (h0 : 0 ≤ i) (h1 : i < n) : ∃ ad , A = some ad ∧ w.cell? (ad.add (i.toNat * 3)) = some (.int .i64 (rd_T101 xs i).f0.f0) ∧ w.cell? ⟨(ad.add (i.toNat * 3)).block, (ad.add (i.toNat * 3)).off + 1, none⟩ = some (.int .i64 (rd_T101 xs i).f0.f1) ∧ w.cell? ⟨(ad.add (i.toNat * 3)).block, (ad.add (i.toNat * 3)).off + 2, none⟩ = some (.bool (rd_T101 xs i).f1) := by
 obtain ⟨ad, c, e, _, hK, hc0⟩ := Kd.C_get h z101 i h0 h1
 have hc : ∀ j u, c[j]? = some u → w.cell? (ad.add (i.toNat * 3 + j)) = some u := hc0
 obtain rfl := k101_open hK
 exact ⟨ad, e, hc 0 _ rfl, by rw [← add_field _ _ 1 (by omega)]; exact hc 1 _ rfl, by rw [← add_field _ _ 2 (by omega)]; exact hc 2 _ rfl⟩
def rd_L10 (xs : List (List S101)) (i : Int) : (List S101) := xs.getD i.toNat ([] : List S101)
theorem at_L10 {w : World} {A : Option Addr} {n : Nat} {xs : List (List S101)} (h : Kd.C (Kd.slice 101 k101) w A n xs) (i : Int) (h0 : 0 ≤ i) (h1 : i < n) : ∃ ad A0 c0, A = some ad ∧ w.cell? (ad.add i.toNat) = some (.slice A0 (rd_L10 xs i).length c0) ∧ (rd_L10 xs i).length ≤ c0 ∧ k101.C w A0 (rd_L10 xs i).length (rd_L10 xs i) := by
 obtain ⟨ad, c, e, _, hK, hc0⟩ := Kd.C_get h ([] : List S101) i h0 h1
 have hc : ∀ j u, c[j]? = some u → w.cell? (ad.add (i.toNat * 1 + j)) = some u := hc0
 obtain ⟨A0, c0, rfl, l0, g0⟩ := hK
 exact ⟨ad, A0, c0, e, by have hq := hc 0 _ rfl; rwa [Nat.mul_one, Nat.add_zero] at hq, l0, g0⟩
def rd_L11 (xs : List (List S52)) (i : Int) : (List S52) := xs.getD i.toNat ([] : List S52)
theorem at_L11 {w : World} {A : Option Addr} {n : Nat} {xs : List (List S52)} (h : Kd.C (Kd.slice 52 k52) w A n xs) (i : Int) (h0 : 0 ≤ i) (h1 : i < n) : ∃ ad A0 c0, A = some ad ∧ w.cell? (ad.add i.toNat) = some (.slice A0 (rd_L11 xs i).length c0) ∧ (rd_L11 xs i).length ≤ c0 ∧ k52.C w A0 (rd_L11 xs i).length (rd_L11 xs i) := by
 obtain ⟨ad, c, e, _, hK, hc0⟩ := Kd.C_get h ([] : List S52) i h0 h1
 have hc : ∀ j u, c[j]? = some u → w.cell? (ad.add (i.toNat * 1 + j)) = some u := hc0
 obtain ⟨A0, c0, rfl, l0, g0⟩ := hK
 exact ⟨ad, A0, c0, e, by have hq := hc 0 _ rfl; rwa [Nat.mul_one, Nat.add_zero] at hq, l0, g0⟩
def rd_L12 (xs : List (List Bool)) (i : Int) : (List Bool) := xs.getD i.toNat ([] : List Bool)
theorem at_L12 {w : World} {A : Option Addr} {n : Nat} {xs : List (List Bool)} (h : Kd.C (Kd.slice 4 Kd.bool) w A n xs) (i : Int) (h0 : 0 ≤ i) (h1 : i < n) : ∃ ad A0 c0, A = some ad ∧ w.cell? (ad.add i.toNat) = some (.slice A0 (rd_L12 xs i).length c0) ∧ (rd_L12 xs i).length ≤ c0 ∧ Kd.bool.C w A0 (rd_L12 xs i).length (rd_L12 xs i) := by
 obtain ⟨ad, c, e, _, hK, hc0⟩ := Kd.C_get h ([] : List Bool) i h0 h1
 have hc : ∀ j u, c[j]? = some u → w.cell? (ad.add (i.toNat * 1 + j)) = some u := hc0
 obtain ⟨A0, c0, rfl, l0, g0⟩ := hK
 exact ⟨ad, A0, c0, e, by have hq := hc 0 _ rfl; rwa [Nat.mul_one, Nat.add_zero] at hq, l0, g0⟩
def rd_L13 (xs : List (List (List S52))) (i : Int) : (List (List S52)) := xs.getD i.toNat ([] : List (List S52))
theorem at_L13 {w : World} {A : Option Addr} {n : Nat} {xs : List (List (List S52))} (h : Kd.C (Kd.slice 42 (Kd.slice 52 k52)) w A n xs) (i : Int) (h0 : 0 ≤ i) (h1 : i < n) : ∃ ad A0 c0, A = some ad ∧ w.cell? (ad.add i.toNat) = some (.slice A0 (rd_L13 xs i).length c0) ∧ (rd_L13 xs i).length ≤ c0 ∧ (Kd.slice 52 k52).C w A0 (rd_L13 xs i).length (rd_L13 xs i) := by
 obtain ⟨ad, c, e, _, hK, hc0⟩ := Kd.C_get h ([] : List (List S52)) i h0 h1
 have hc : ∀ j u, c[j]? = some u → w.cell? (ad.add (i.toNat * 1 + j)) = some u := hc0
 obtain ⟨A0, c0, rfl, l0, g0⟩ := hK
 exact ⟨ad, A0, c0, e, by have hq := hc 0 _ rfl; rwa [Nat.mul_one, Nat.add_zero] at hq, l0, g0⟩
structure S106 where
 f0 : S52
 f1 : Bool
def z106 : S106 := ⟨z52, false⟩
def k106 : Kd S106 := Kd.iso (Kd.pair k52 Kd.bool) (fun x : S106 => (x.f0, x.f1))
theorem k106_open {w : World} {x : S106} {cs : List Value} (h : k106.K w x cs) : cs = [.int .i64 x.f0.f0, .int .i64 x.f0.f1, .bool x.f1] := by
 obtain ⟨_, _, rfl, s0, rfl⟩ := h
 obtain rfl := k52_open s0
 exact rfl
theorem k106_openM {w : World} {base : Nat} {ok : Nat → Prop} {x : S106} {cs : List Value} (h : k106.M w base ok x cs) : cs = [.int .i64 x.f0.f0, .int .i64 x.f0.f1, .bool x.f1] := by
 obtain ⟨_, _, rfl, s0, rfl⟩ := h
 obtain rfl := k52_openM s0
 exact rfl
theorem k106_mk (w : World) (x : S106)  : k106.K w x [.int .i64 x.f0.f0, .int .i64 x.f0.f1, .bool x.f1] := ⟨[.int .i64 x.f0.f0, .int .i64 x.f0.f1], [.bool x.f1], rfl, (k52_mk w x.f0 ), rfl⟩
theorem k106_mkM (w : World) (base : Nat) (ok : Nat → Prop) (x : S106)  : k106.M w base ok x [.int .i64 x.f0.f0, .int .i64 x.f0.f1, .bool x.f1] := ⟨[.int .i64 x.f0.f0, .int .i64 x.f0.f1], [.bool x.f1], rfl, (k52_mkM w base ok x.f0 ), rfl⟩
def rd_T106 (xs : List S106) (i : Int) : S106 := xs.getD i.toNat z106
theorem at_T106 {w : World} {A : Option Addr} {n : Nat} {xs : List S106} (h : Kd.C k106 w A n xs) (i : Int) (h0 : 0 ≤ i) (h1 : i < n) : ∃ ad , A = some ad ∧ w.cell? (ad.add (i.toNat * 3)) = some (.int .i64 (rd_T106 xs i).f0.f0) ∧ w.cell? ⟨(ad.add (i.toNat * 3)).block, (ad.add (i.toNat * 3)).off + 1, none⟩ = some (.int .i64 (rd_T106 xs i).f0.f1) ∧ w.cell? ⟨(ad.add (i.toNat * 3)).block, (ad.add (i.toNat * 3)).off + 2, none⟩ = some (.bool (rd_T106 xs i).f1) := by
 obtain ⟨ad, c, e, _, hK, hc0⟩ := Kd.C_get h z106 i h0 h1
 have hc : ∀ j u, c[j]? = some u → w.cell? (ad.add (i.toNat * 3 + j)) = some u := hc0
 obtain rfl := k106_open hK
 exact ⟨ad, e, hc 0 _ rfl, by rw [← add_field _ _ 1 (by omega)]; exact hc 1 _ rfl, by rw [← add_field _ _ 2 (by omega)]; exact hc 2 _ rfl⟩
end Go.Proofs.Ytbmklpcheopgoaa.H

namespace Go.Proofs.Ytbmklpcheopgoaa.H
open Go.RowKit Go.Proofs.YtbmklpcheopgoaaW.PrintWords Go.Proofs.YtbmklpcheopgoaaW.PrintLast Go.Proofs.YtbmklpcheopgoaaW.PrintMore
attribute [local go_sem] max2_int min2_int max_two min_two max_three min_three max_four min_four
set_option linter.unusedVariables false
set_option linter.unusedSimpArgs false
theorem eqA33 (d : Nat) (w : World) (x0 y0 : Int) (x1 y1 : Int) (x2 y2 : Bool) :
  (Op.equalIn (d + 2) 33 (.agg #[.int .i64 x0, .int .i64 x1, .bool x2]) (.agg #[.int .i64 y0, .int .i64 y1, .bool y2])).run Try.prog w = .ok (x0 == y0 && (x1 == y1 && (x2 == y2))) w := by
 refine eqA_of Try.underlying33 (by kernel_rfl) ?_
 refine eqf_cons (by rfl) (by go_simp; rfl) (by go_simp; rfl) (by go_simp) ?_
 refine eqf_cons (by rfl) (by go_simp; rfl) (by go_simp; rfl) (by go_simp) ?_
 exact eqf_last (by rfl) (by go_simp; rfl) (by go_simp; rfl) (by go_simp)
end Go.Proofs.Ytbmklpcheopgoaa.H

namespace Go.Proofs.Ytbmklpcheopgoaa.H
open Go.RowKit Go.Proofs.YtbmklpcheopgoaaW.PrintWords Go.Proofs.YtbmklpcheopgoaaW.PrintLast Go.Proofs.YtbmklpcheopgoaaW.PrintMore
attribute [local go_sem] max2_int min2_int max_two min_two max_three min_three max_four min_four
set_option linter.unusedVariables false
set_option linter.unusedSimpArgs false
theorem eqi_cons {P : Program} {d n i : Nat} {e : TypeId} {is : List Nat} {xs ys : Array Value} {a b : Value} {r s : Bool} {w : World} (ha : (part e xs (i * n)).run P w = .ok a w) (hb : (part e ys (i * n)).run P w = .ok b w) (he : (Op.equalIn d e a b).run P w = .ok r w) (hr : (Op.eqItems d e n xs ys is).run P w = .ok s w) : (Op.eqItems d e n xs ys (i :: is)).run P w = .ok (r && s) w := by
 simp only [Op.eqItems, Sem.run_bind, ha, hb, he, Result.andThen_ok]
 cases r
 ·
  simp
 ·
  simpa using hr
theorem eqi_last {P : Program} {d n i : Nat} {e : TypeId} {xs ys : Array Value} {a b : Value} {r : Bool} {w : World} (ha : (part e xs (i * n)).run P w = .ok a w) (hb : (part e ys (i * n)).run P w = .ok b w) (he : (Op.equalIn d e a b).run P w = .ok r w) : (Op.eqItems d e n xs ys [i]).run P w = .ok r w := by
 have h := eqi_cons (is := []) (s := true) ha hb he (by simp [Op.eqItems])
 rwa [Bool.and_true] at h
theorem eqA48 (d : Nat) (w : World) (x0 y0 : Bool) (x1 y1 : Bool) (x2 y2 : Bool) (x3 y3 : Bool) :
  (Op.equalIn (d + 2) 48 (.agg #[.bool x0, .bool x1, .bool x2, .bool x3]) (.agg #[.bool y0, .bool y1, .bool y2, .bool y3])).run Try.prog w = .ok (x0 == y0 && (x1 == y1 && (x2 == y2 && (x3 == y3)))) w := by
 obtain ⟨i_, hi_⟩ : ∃ i, Try.prog.info? 4 = some i := Option.isSome_iff_exists.1 (by kernel_rfl)
 have hc_ : Try.prog.cellsOf 4 = 1 := by kernel_rfl
 rw [run_equalIn_array (P := Try.prog) (w := w) (d + 1) _ _ Try.underlying48 hi_, hc_]
 show (Op.eqItems (d + 1) 4 1 _ _ [0, 1, 2, 3]).run Try.prog w = _
 refine eqi_cons (by go_simp; rfl) (by go_simp; rfl) (by go_simp) ?_
 refine eqi_cons (by go_simp; rfl) (by go_simp; rfl) (by go_simp) ?_
 refine eqi_cons (by go_simp; rfl) (by go_simp; rfl) (by go_simp) ?_
 exact eqi_last (by go_simp; rfl) (by go_simp; rfl) (by go_simp)
end Go.Proofs.Ytbmklpcheopgoaa.H

namespace Go.Proofs.YtbmklpcheopgoaaIt
open Go Go.RowKit

/-- From W to W' nothing has changed but blocks of S and new ones. -/
structure Chg (S : Nat → Prop) (W W' : World) : Prop where
  os : W'.os = W.os
  tape : W'.tape = W.tape
  output : W'.output = W.output
  size : W.heap.size ≤ W'.heap.size
  block : ∀ b, b < W.heap.size → ¬ S b → W'.heap[b]? = W.heap[b]?

theorem Chg.refl (S : Nat → Prop) (W : World) : Chg S W W := ⟨rfl, rfl, rfl, Nat.le_refl _, fun _ _ _ => rfl⟩
theorem Chg.trans {S : Nat → Prop} {a b c : World} (h : Chg S a b) (k : Chg S b c) : Chg S a c :=
  ⟨k.os.trans h.os, k.tape.trans h.tape, k.output.trans h.output, Nat.le_trans h.size k.size, fun i hi hn => (k.block i (Nat.lt_of_lt_of_le hi h.size) hn).trans (h.block i hi hn)⟩
theorem Chg.mono {S T : Nat → Prop} {a b : World} (h : Chg S a b) (hST : ∀ i, i < a.heap.size → S i → T i) : Chg T a b := ⟨h.os, h.tape, h.output, h.size, fun i hi hn => h.block i hi (fun hs => hn (hST i hi hs))⟩
theorem Chg.below {S : Nat → Prop} {a b : World} (h : Chg S a b) {B : Nat} (hB : B ≤ a.heap.size) (hS : ∀ i, i < B → ¬ S i) : Below B a b := ⟨h.os, h.tape, h.output, h.size, fun k hk => h.block k (by omega) (hS k hk)⟩
theorem Chg.of_below {B : Nat} {a b : World} (h : Below B a b) : Chg (fun i => B ≤ i) a b := ⟨h.os, h.tape, h.output, h.size, fun k _ hn => h.block k (by omega)⟩
theorem Chg.of_fresh {S : Nat → Prop} {a b : World} (h : Below a.heap.size a b) : Chg S a b := ⟨h.os, h.tape, h.output, h.size, fun k hk _ => h.block k hk⟩
theorem Chg.of_grownBy {a b : World} {row : Option Nat} (h : a.grownBy b row) : Chg (fun i => row = some i) a b := ⟨h.os, h.tape, h.output, h.size, fun k hk hn => h.block k hk (fun e => hn e.symm)⟩
theorem Chg.drew {S : Nat → Prop} {a b : World} (h : Chg S a b) : Chg S a b.drew := ⟨h.os, h.tape, h.output, h.size, h.block⟩
theorem Chg.drewN {S : Nat → Prop} {a b : World} (h : Chg S a b) (n : Nat) : Chg S a (b.drewN n) := ⟨h.os, h.tape, h.output, h.size, h.block⟩
theorem Chg.alloc {S : Nat → Prop} {a b : World} (h : Chg S a b) (o : Obj) : Chg S a (b.alloc o) :=
  h.trans ⟨rfl, rfl, rfl, by simp, fun k hk _ => Below.heap_alloc _ _ _ hk⟩
theorem Chg.setCell {S : Nat → Prop} {a b : World} (h : Chg S a b) {p : Addr} (hp : p.block < a.heap.size → S p.block) (u : Value) : Chg S a (b.setCell p u) :=
  ⟨h.os, h.tape, h.output, by have := h.size; simpa [World.setCell] using this, fun k hk hn => (Below.heap_setCell _ _ _ _ (fun e => by subst e; exact hn (hp hk))).trans (h.block k hk hn)⟩
theorem Chg.putObj {S : Nat → Prop} {a b : World} (h : Chg S a b) {r : Nat} (hp : r < a.heap.size → S r) (o : Obj) : Chg S a (b.putObj r o) :=
  ⟨h.os, h.tape, h.output, by have := h.size; simpa using this, fun k hk hn => (World.putObj_heap_other (fun e => by subst e; exact hn (hp hk))).trans (h.block k hk hn)⟩
theorem Chg.lt {S : Nat → Prop} {a b : World} (h : Chg S a b) {i : Nat} (hi : i < a.heap.size) : i < b.heap.size := Nat.lt_of_lt_of_le hi h.size
theorem Chg.cell {S : Nat → Prop} {a b : World} (h : Chg S a b) {p : Addr} (hi : p.block < a.heap.size) (hn : ¬ S p.block) : b.cell? p = a.cell? p := World.cell?_of_block (w := a) (h.block _ hi hn)
theorem Chg.heap {S : Nat → Prop} {a b : World} (h : Chg S a b) {i : Nat} {o : Obj} (hi : a.heap[i]? = some o) (hn : ¬ S i) : b.heap[i]? = some o := (h.block i (Array.getElem?_eq_some_iff.1 hi).1 hn).trans hi
theorem Chg.putSelf (W : World) (r : Nat) (o : Obj) : Chg (fun i => i = r) W (W.putObj r o) := Chg.putObj (S := fun i => i = r) (Chg.refl _ _) (fun _ => rfl) o

/-- What is owned grows by new blocks alone. -/
def Grow (own own' : Nat → Prop) (W : World) : Prop := (∀ b, own b → own' b) ∧ ∀ b, own' b → own b ∨ W.heap.size ≤ b
theorem Grow.refl (own : Nat → Prop) (W : World) : Grow own own W := ⟨fun _ h => h, fun _ h => .inl h⟩
theorem Grow.trans {o1 o2 o3 : Nat → Prop} {W W' : World} (h : Grow o1 o2 W) (k : Grow o2 o3 W') (hs : W.heap.size ≤ W'.heap.size) : Grow o1 o3 W :=
  ⟨fun b hb => k.1 b (h.1 b hb), fun b hb => by
    rcases k.2 b hb with h3 | h3
    · exact h.2 b h3
    · exact .inr (Nat.le_trans hs h3)⟩
theorem Chg.grow {o1 o2 : Nat → Prop} {W W' W'' : World} (h : Chg o1 W W') (hg : Grow o1 o2 W) (k : Chg o2 W' W'') : Chg o1 W W'' :=
  ⟨k.os.trans h.os, k.tape.trans h.tape, k.output.trans h.output, Nat.le_trans h.size k.size, fun i hi hn => (k.block i (Nat.lt_of_lt_of_le hi h.size) (fun h2 => by
    rcases hg.2 i h2 with h3 | h3
    · exact hn h3
    · omega)).trans (h.block i hi hn)⟩

/-- .. but for what is handed over. -/
def GrowG (G own own' : Nat → Prop) (W : World) : Prop := (∀ b, own b → own' b) ∧ ∀ b, own' b → own b ∨ W.heap.size ≤ b ∨ G b
theorem GrowG.of {G own own' : Nat → Prop} {W : World} (h : Grow own own' W) : GrowG G own own' W := ⟨h.1, fun b hb => (h.2 b hb).elim .inl (fun x => .inr (.inl x))⟩
theorem GrowG.refl (G own : Nat → Prop) (W : World) : GrowG G own own W := ⟨fun _ h => h, fun _ h => .inl h⟩
theorem GrowG.take (G own : Nat → Prop) (W : World) : GrowG G own (fun b => own b ∨ G b) W := ⟨fun _ h => .inl h, fun _ h => h.elim .inl (fun x => .inr (.inr x))⟩
theorem GrowG.grow {own own' : Nat → Prop} {W : World} (h : GrowG (fun _ => False) own own' W) : Grow own own' W := ⟨h.1, fun b hb => by
  rcases h.2 b hb with h | h | h
  · exact .inl h
  · exact .inr h
  · exact h.elim⟩
theorem GrowG.trans {G o1 o2 o3 : Nat → Prop} {W W' : World} (h : GrowG G o1 o2 W) (k : Grow o2 o3 W') (hs : W.heap.size ≤ W'.heap.size) : GrowG G o1 o3 W :=
  ⟨fun b hb => k.1 b (h.1 b hb), fun b hb => by
    rcases k.2 b hb with h3 | h3
    · exact h.2 b h3
    · exact .inr (.inl (Nat.le_trans hs h3))⟩

/-- What is said of the caller's state abides whatever happens to blocks from B on that it doesn't own. -/
def Stable (B : Nat) (J : Nat → (Nat → Prop) → World → Prop) : Prop := ∀ k own W W', J k own W → Chg (fun b => B ≤ b ∧ ¬ own b) W W' → J k own W'
theorem Stable.up {B B' : Nat} {J : Nat → (Nat → Prop) → World → Prop} (h : Stable B J) (hB : B ≤ B') : Stable B' J := fun k own W W' hj hc => h k own W W' hj (hc.mono fun _ _ hs => ⟨Nat.le_trans hB hs.1, hs.2⟩)
theorem Stable.and {B : Nat} {J K : Nat → (Nat → Prop) → World → Prop} (h : Stable B J) (h' : Stable B K) : Stable B (fun k own W => J k own W ∧ K k own W) := fun k own W W' hj hc => ⟨h k own W W' hj.1 hc, h' k own W W' hj.2 hc⟩
theorem Stable.pure {B : Nat} (J : Nat → (Nat → Prop) → Prop) : Stable B (fun k own _ => J k own) := fun _ _ _ _ h _ => h
theorem Stable.false {B : Nat} : Stable B (fun _ _ _ => False) := fun _ _ _ _ h _ => h
theorem Stable.below {B n₀ : Nat} (w : World) (h : n₀ ≤ B) (hw : n₀ ≤ w.heap.size) : Stable B (fun _ _ W => Below n₀ w W) := fun _ _ W W' hj hc => hj.trans (hc.below (Nat.le_trans hw hj.size) (fun i hi hs => by omega))
theorem Stable.chg {B : Nat} (S : Nat → Prop) (w : World) (h : w.heap.size ≤ B) : Stable B (fun _ _ W => Chg S w W) := fun _ _ W W' hj hc => ⟨hc.os.trans hj.os, hc.tape.trans hj.tape, hc.output.trans hj.output, Nat.le_trans hj.size hc.size, fun i hi hn => (hc.block i (hj.lt hi) (fun hs => by omega)).trans (hj.block i hi hn)⟩

/-- An iterator value: called with a loop's yield, it makes N rounds at most, the k-th with arguments of which El k tells, and which hand over the blocks of Gv; Rd: the blocks that it reads, which the caller doesn't own. -/
def ItC (P : Program) (g : Nat) (lb : Array Value) (N : Nat) (El : Nat → World → Array Value → Prop) (Gv : Array Value → Nat → Prop) (Rd : Nat → Prop) (w : World) : Prop :=
  ∀ (l : Nat) (J Jx : Nat → (Nat → Prop) → World → Prop) (own0 : Nat → Prop) (W : World), Below w.heap.size w W → w.heap.size ≤ l → l < W.heap.size → Stable W.heap.size J → Stable W.heap.size Jx → (∀ b, own0 b → b < W.heap.size ∧ ¬ Rd b) →
    (∀ k own W1 args, k < N → J k own W1 → W.heap.size ≤ W1.heap.size → (∀ b, own b → b < W1.heap.size) → El k W1 args → (∀ b, Gv args b → W.heap.size ≤ b ∧ ¬ own b) → ∀ n, YieldAt Fence.wide n P l args W1 fun e W' =>
      ∃ own', GrowG (Gv args) own own' W1 ∧ (∀ b, own' b → b < W'.heap.size) ∧ Chg (fun b => own b ∨ b = l ∨ Gv args b) W1 W' ∧ ((e = .returned (.bool true) ∧ J (k + 1) own' W') ∨ (e = .returned (.bool false) ∧ Jx (k + 1) own' W'))) →
    J 0 own0 W →
    Calls P g (#[.func (.yield l) #[] #[]] ++ lb) W fun e W' => (∃ v, e = .returned v) ∧ ∃ own', (∀ b, own' b → b < W'.heap.size) ∧ (J N own' W' ∨ ∃ k, k ≤ N ∧ Jx k own' W')

theorem ItC.later {P : Program} {g : Nat} {lb : Array Value} {N : Nat} {El : Nat → World → Array Value → Prop} {Gv : Array Value → Nat → Prop} {Rd : Nat → Prop} {w w' : World} (h : ItC P g lb N El Gv Rd w) (hb : Below w.heap.size w w') : ItC P g lb N El Gv Rd w' :=
  fun l J Jx own0 W hW hl => h l J Jx own0 W (hb.trans (hW.mono hb.size)) (Nat.le_trans hb.size hl)

/-- Where an iterator stands between two rounds: since its call began nothing has changed but what the caller owns, the loop's record, and the iterator's own (P). -/
structure Since (l : Nat) (own0 : Nat → Prop) (W : World) (own : Nat → Prop) (P : Nat → Prop) (wr : World) : Prop where
  chg : Chg (fun b => own b ∨ b = l ∨ P b) W wr
  old : ∀ b, b < W.heap.size → own b → own0 b
  lt : ∀ b, own b → b < wr.heap.size
theorem Since.start {l : Nat} {own0 : Nat → Prop} {W : World} {P : Nat → Prop} (h : ∀ b, own0 b → b < W.heap.size) : Since l own0 W own0 P W := ⟨Chg.refl _ _, fun _ _ h => h, h⟩
theorem Since.next {l : Nat} {own0 own own' G : Nat → Prop} {W wr wr' : World} {P : Nat → Prop} (h : Since l own0 W own P wr) (hg : GrowG G own own' wr) (ho : ∀ b, own' b → b < wr'.heap.size) (hc : Chg (fun b => own b ∨ b = l ∨ G b) wr wr') (hG : ∀ b, G b → W.heap.size ≤ b) : Since l own0 W own' P wr' :=
  ⟨⟨hc.os.trans h.chg.os, hc.tape.trans h.chg.tape, hc.output.trans h.chg.output, Nat.le_trans h.chg.size hc.size, fun b hb hn => (hc.block b (h.chg.lt hb) (fun hs => by
      rcases hs with x | x | x
      · exact hn (.inl (hg.1 _ x))
      · exact hn (.inr (.inl x))
      · have := hG b x; omega)).trans (h.chg.block b hb (fun hs => hn (hs.elim (fun x => .inl (hg.1 _ x)) .inr)))⟩, fun b hb hb' => h.old b hb (by
      rcases hg.2 b hb' with x | x | x
      · exact x
      · have := h.chg.size; omega
      · have := hG b x; omega), ho⟩
theorem Since.own {l : Nat} {own0 own : Nat → Prop} {W wr wr' : World} {P : Nat → Prop} (h : Since l own0 W own P wr) (hc : Chg P wr wr') : Since l own0 W own P wr' :=
  ⟨h.chg.trans (hc.mono (fun _ _ hs => .inr (.inr hs))), h.old, fun b hb => hc.lt (h.lt b hb)⟩
/-- What the iterator reads is as it was where its value was made. -/
theorem Since.reads {l : Nat} {own0 own : Nat → Prop} {w W wr : World} {P Rd : Nat → Prop} (h : Since l own0 W own P wr) (hW : Below w.heap.size w W) (hl : w.heap.size ≤ l) (hown : ∀ b, own0 b → b < W.heap.size ∧ ¬ Rd b) (hP : ∀ b, b < w.heap.size → ¬ P b) : Chg (fun b => ¬ Rd b) w wr :=
  ⟨h.chg.os.trans hW.os, h.chg.tape.trans hW.tape, h.chg.output.trans hW.output, Nat.le_trans hW.size h.chg.size, fun b hb hn => (h.chg.block b (Nat.lt_of_lt_of_le hb hW.size) (fun hs => by
    rcases hs with hs | hs | hs
    · exact hn (fun hr => (hown b (h.old b (Nat.lt_of_lt_of_le hb hW.size) hs)).2 hr)
    · omega
    · exact hP b hb hs)).trans (hW.block b hb)⟩

/-- What a round's body ends in. -/
def roundQ (I : Nat → (Nat → Prop) → World → Prop) (Ix : Code → Nat → (Nat → Prop) → World → Prop) (k : Nat) (own : Nat → Prop) (W : World) : Exit → Act → World → Prop
  | .normal, _, W' => ∃ own', Grow own own' W ∧ (∀ b, own' b → b < W'.heap.size) ∧ Chg own W W' ∧ I (k + 1) own' W'
  | .ret, _, W' => ∃ own', Grow own own' W ∧ (∀ b, own' b → b < W'.heap.size) ∧ Chg own W W' ∧ Ix .ret (k + 1) own' W'
  | .exit id, _, W' => ∃ own', Grow own own' W ∧ (∀ b, own' b → b < W'.heap.size) ∧ Chg own W W' ∧ Ix (.exit id) (k + 1) own' W'
  | .goto t, _, W' => ∃ own', Grow own own' W ∧ (∀ b, own' b → b < W'.heap.size) ∧ Chg own W W' ∧ Ix (.goto t) (k + 1) own' W'
  | .panic _, _, _ => False
  | .outgrown, _, _ => False

theorem round_law {P : Program} {ps : Array Tmp} {assign body : Code} {fn : FuncId} {tmps : Array Value} {D : Nat} (B l : Nat) (rec : LoopState → Option Code → Loop)
    (hrec : rec = fun st pe => { state := st, pending := pe, fn := fn, tmps := tmps, params := ps, assign := assign, body := body, defers := D })
    (I : Nat → (Nat → Prop) → World → Prop) (Ix : Code → Nat → (Nat → Prop) → World → Prop) (hI : Stable B I) (hIx : ∀ c, Stable B (Ix c)) (N : Nat) (El : Nat → World → Array Value → Prop) (Gv : Array Value → Nat → Prop)
    (hps : ∀ k W args, El k W args → args.size = ps.size) (hBl : B ≤ l)
    (Ax : Nat → (Nat → Prop) → Act → World → Prop) (hAx : ∀ k own a' W o o', Ax k own a' W → W.heap[l]? = some o → o.isCells = false → Ax k own a' (W.putObj l o'))
    (hassign : ∀ n k own args W, I k own W → (∀ b, own b → b < W.heap.size) → l < W.heap.size → ¬ own l → k < N → El k W args → (∀ b, Gv args b → ¬ own b) →
      assign.wpIn (Fence.wide.inRound l) n P (Exit.then (fun a' W' => ∃ own', GrowG (Gv args) own own' W ∧ (∀ b, own' b → b < W'.heap.size) ∧ Chg own W W' ∧ I k own' W' ∧ Ax k own' a' W') (fun _ _ _ => False))
        { tmps := (ps.zip args).foldl (fun t (p, v) => t.setIfInBounds p v) tmps, defers := [] } W)
    (hbody : ∀ n k own a' W, I k own W → (∀ b, own b → b < W.heap.size) → (∃ r, W.heap[l]? = some (.loop r)) → ¬ own l → k < N → Ax k own a' W → body.wpIn (Fence.wide.inRound l) n P (roundQ I Ix k own W) a' W)
    (k : Nat) (own : Nat → Prop) (W : World) (args : Array Value) (hk : k < N) (hi : I k own W) (how : ∀ b, own b → b < W.heap.size) (hl : W.heap[l]? = some (.loop (rec .ready none))) (hnl : ¬ own l) (hel : El k W args) (hGl : ∀ b, Gv args b → b ≠ l ∧ ¬ own b) (n : Nat) :
    YieldAt Fence.wide n P l args W fun e W' => ∃ own', GrowG (Gv args) own own' W ∧ (∀ b, own' b → b < W'.heap.size) ∧ Chg (fun b => own b ∨ b = l ∨ Gv args b) W W' ∧ ¬ own' l ∧
      ((e = .returned (.bool true) ∧ I (k + 1) own' W' ∧ W'.heap[l]? = some (.loop (rec .ready none))) ∨ (e = .returned (.bool false) ∧ ∃ c, Ix c (k + 1) own' W' ∧ W'.heap[l]? = some (.loop (rec .done (some c))))) := by
  have hlt : l < W.heap.size := (Array.getElem?_eq_some_iff.1 hl).1
  have hy := run_yield (P := P) (args := args) hl (by rw [hrec]; exact hps _ _ _ hel)
  rw [hrec] at hy
  refine ⟨fn, _, assign, body, hy, roundIn_of_wpIn (F := Fence.wide) trivial (wpIn_mono (hassign n k own args W hi how hlt hnl hk hel (fun b hb => (hGl b hb).2)) ?_)⟩
  clear hy
  rintro e a' W' hq
  cases e with
  | normal =>
    obtain ⟨o1, hg1, ho1, hc1, hi1, hax⟩ := hq
    have hn1 : ¬ o1 l := fun h => by
      rcases hg1.2 l h with h | h | h
      · exact hnl h
      · omega
      · exact (hGl _ h).1 rfl
    have hl1 : W'.heap[l]? = some (.loop (rec .ready none)) := hc1.heap hl hnl
    have hlt1 : l < W'.heap.size := hc1.lt hlt
    refine ⟨_, run_beginRound hl1 (by rw [hrec]), ?_⟩
    have hl2 : (W'.putObj l (.loop { rec .ready none with state := .busy })).heap[l]? = some (.loop { rec .ready none with state := .busy }) := World.putObj_heap_same hlt1
    have hc2 : Chg (fun b => B ≤ b ∧ ¬ o1 b) W' (W'.putObj l (.loop { rec .ready none with state := .busy })) := (Chg.refl _ _).putObj (fun _ => ⟨hBl, hn1⟩) _
    refine wpIn_mono (hbody n k o1 a' _ (hI _ _ _ _ hi1 hc2) (fun b hb => by rw [World.putObj_size]; exact ho1 b hb) ⟨_, hl2⟩ hn1 hk (hAx _ _ _ _ _ _ hax hl1 rfl)) ?_
    have fin : ∀ (jump : Option Code) (o3 : Nat → Prop) (W3 : World), Grow o1 o3 (W'.putObj l (.loop { rec .ready none with state := .busy })) → (∀ b, o3 b → b < W3.heap.size) → Chg o1 (W'.putObj l (.loop { rec .ready none with state := .busy })) W3 →
        ∃ W4, W4 = W3.putObj l (.loop (rec (if jump.isNone then .ready else .done) jump)) ∧ (Instr.endRound l jump).run P W3 = .ok (.bool jump.isNone) W4 ∧ W4.heap[l]? = some (.loop (rec (if jump.isNone then .ready else .done) jump)) ∧
          GrowG (Gv args) own o3 W ∧ (∀ b, o3 b → b < W4.heap.size) ∧ Chg (fun b => own b ∨ b = l ∨ Gv args b) W W4 ∧ ¬ o3 l ∧ Chg (fun b => B ≤ b ∧ ¬ o3 b) W3 W4 := by
      intro jump o3 W3 hg3 ho3 hc3
      have hl3 := hc3.heap hl2 hn1
      have hlt3 : l < W3.heap.size := (Array.getElem?_eq_some_iff.1 hl3).1
      have hn3 : ¬ o3 l := fun h => by
        rcases hg3.2 l h with h | h
        · exact hn1 h
        · rw [World.putObj_size] at h; omega
      refine ⟨_, rfl, ?_, World.putObj_heap_same hlt3, hg1.trans hg3 (by rw [World.putObj_size]; exact hc1.size), fun b hb => by rw [World.putObj_size]; exact ho3 b hb, ?_, hn3, (Chg.refl _ _).putObj (fun _ => ⟨hBl, hn3⟩) _⟩
      · have := run_endRound (P := P) jump hl3
        rw [hrec] at this ⊢
        exact this
      · have e1 : Chg (fun b => own b ∨ b = l ∨ Gv args b) W (W'.putObj l (.loop { rec .ready none with state := .busy })) := (hc1.mono (fun _ _ h => .inl h)).putObj (fun _ => .inr (.inl rfl)) _
        have e2 : Chg (fun b => own b ∨ b = l ∨ Gv args b) W W3 := by
          refine ⟨hc3.os.trans e1.os, hc3.tape.trans e1.tape, hc3.output.trans e1.output, Nat.le_trans e1.size hc3.size, fun i hi hn => (hc3.block i (e1.lt hi) (fun h2 => ?_)).trans (e1.block i hi hn)⟩
          rcases hg1.2 i h2 with h3 | h3 | h3
          · exact hn (.inl h3)
          · omega
          · exact hn (.inr (.inr h3))
        exact e2.putObj (fun _ => .inr (.inl rfl)) _
    rintro e a3 W3 hp
    cases e with
    | normal =>
      obtain ⟨o3, hg3, ho3, hc3, hi3⟩ := hp
      obtain ⟨W4, rfl, hr, hl4, hg4, ho4, hc4, hn4, hs4⟩ := fin none o3 W3 hg3 ho3 hc3
      exact ⟨_, _, hr, o3, hg4, ho4, hc4, hn4, .inl ⟨rfl, hI _ _ _ _ hi3 hs4, hl4⟩⟩
    | ret =>
      obtain ⟨o3, hg3, ho3, hc3, hi3⟩ := hp
      obtain ⟨W4, rfl, hr, hl4, hg4, ho4, hc4, hn4, hs4⟩ := fin (some .ret) o3 W3 hg3 ho3 hc3
      exact ⟨_, _, hr, o3, hg4, ho4, hc4, hn4, .inr ⟨rfl, .ret, hIx _ _ _ _ _ hi3 hs4, hl4⟩⟩
    | exit id =>
      obtain ⟨o3, hg3, ho3, hc3, hi3⟩ := hp
      obtain ⟨W4, rfl, hr, hl4, hg4, ho4, hc4, hn4, hs4⟩ := fin (some (.exit id)) o3 W3 hg3 ho3 hc3
      exact ⟨_, _, hr, o3, hg4, ho4, hc4, hn4, .inr ⟨rfl, .exit id, hIx _ _ _ _ _ hi3 hs4, hl4⟩⟩
    | goto t =>
      obtain ⟨o3, hg3, ho3, hc3, hi3⟩ := hp
      obtain ⟨W4, rfl, hr, hl4, hg4, ho4, hc4, hn4, hs4⟩ := fin (some (.goto t)) o3 W3 hg3 ho3 hc3
      exact ⟨_, _, hr, o3, hg4, ho4, hc4, hn4, .inr ⟨rfl, .goto t, hIx _ _ _ _ _ hi3 hs4, hl4⟩⟩
    | panic ch => exact hp.elim
    | outgrown => exact hp.elim
  | exit id => exact hq.elim
  | goto t => exact hq.elim
  | ret => exact hq.elim
  | panic ch => exact hq.elim
  | outgrown => exact hq.elim

/-- The law, at a loop that lies in no round. -/
theorem range_outer {P : Program} {n : Nat} {g : Operand} {ps : Array Tmp} {assign body : Code} {Q : Exit → Act → World → Prop} {a : Act} {w : World} {gf : Nat} {lb : Array Value} {N : Nat} {El : Nat → World → Array Value → Prop} {Gv : Array Value → Nat → Prop} {Rd : Nat → Prop}
    (hit : ItC P gf lb N El Gv Rd w) (hg : a.eval g = .func (.func gf) #[] lb) (eg : ∀ args w, (callFunc gf args).run P w = .ok (.enter gf args) w)
    (I : Nat → (Nat → Prop) → World → Prop) (Ix : Code → Nat → (Nat → Prop) → World → Prop) (own0 : Nat → Prop) (hI : Stable w.heap.size I) (hIx : ∀ c, Stable w.heap.size (Ix c))
    (hps : ∀ k W args, El k W args → args.size = ps.size) (how0 : ∀ b, own0 b → b < w.heap.size ∧ ¬ Rd b) (h0 : I 0 own0 w)
    (Ax : Nat → (Nat → Prop) → Act → World → Prop) (hAx : ∀ l k own a' W o o', w.heap.size ≤ l → Ax k own a' W → W.heap[l]? = some o → o.isCells = false → Ax k own a' (W.putObj l o'))
    (hassign : ∀ l n k own args W, w.heap.size ≤ l → I k own W → (∀ b, own b → b < W.heap.size) → l < W.heap.size → ¬ own l → k < N → El k W args → (∀ b, Gv args b → ¬ own b) →
      assign.wpIn (Fence.wide.inRound l) n P (Exit.then (fun a' W' => ∃ own', GrowG (Gv args) own own' W ∧ (∀ b, own' b → b < W'.heap.size) ∧ Chg own W W' ∧ I k own' W' ∧ Ax k own' a' W') (fun _ _ _ => False))
        { tmps := (ps.zip args).foldl (fun t (p, v) => t.setIfInBounds p v) a.tmps, defers := [] } W)
    (hbody : ∀ l n k own a' W, w.heap.size ≤ l → I k own W → (∀ b, own b → b < W.heap.size) → (∃ r, W.heap[l]? = some (.loop r)) → ¬ own l → k < N → Ax k own a' W → body.wpIn (Fence.wide.inRound l) n P (roundQ I Ix k own W) a' W)
    (hdone : ∀ D own W, w.heap.size ≤ D → (∀ b, own b → b < W.heap.size) → ¬ own D → I N own W → W.heap[D]? = some (.deferred (some [])) → Q .normal { a with defers := { target := .collected D, args := #[] } :: a.defers } W)
    (hstop : ∀ D c k own W, w.heap.size ≤ D → (∀ b, own b → b < W.heap.size) → ¬ own D → k ≤ N → Ix c k own W → W.heap[D]? = some (.deferred (some [])) → c.wpIn Fence.wide n P Q { a with defers := { target := .collected D, args := #[] } :: a.defers } W) :
    (Code.rangeFunc g ps assign body).wpIn Fence.wide n P Q a w := by
  refine wpIn_rangeFunc ?_
  intro fn hfn
  obtain ⟨rec, hrec⟩ : ∃ rec : LoopState → Option Code → Loop, rec = fun st pe => { state := st, pending := pe, fn, tmps := a.tmps, params := ps, assign, body, defers := w.heap.size } := ⟨_, rfl⟩
  obtain ⟨W1, hW1⟩ : ∃ W1, (w.alloc (.deferred (some []))).alloc (.loop (rec .ready none)) = W1 := ⟨_, rfl⟩
  have hL1 : W1.heap[w.heap.size + 1]? = some (.loop (rec .ready none)) := by
    rw [← hW1]; have := World.alloc_heap_new (w.alloc (.deferred (some []))) (.loop (rec .ready none)); rwa [World.size_alloc] at this
  have hK1 : W1.heap[w.heap.size]? = some (.deferred (some [])) := by
    rw [← hW1]; exact (Below.heap_alloc _ _ _ (by simp)).trans (World.alloc_heap_new w _)
  have hS1 : W1.heap.size = w.heap.size + 2 := by rw [← hW1]; simp
  have hI1 : I 0 own0 W1 := by rw [← hW1]; exact hI _ _ _ _ h0 (((Chg.refl _ w).alloc _).alloc _)
  have hb1 : Below w.heap.size w W1 := by
    rw [← hW1]; exact ((Below.refl _ w).alloc (Nat.le_refl _) _).alloc (by simp) _
  have hnd : ¬ own0 w.heap.size := fun h => by have := (how0 _ h).1; omega
  have hnl : ¬ own0 (w.heap.size + 1) := fun h => by have := (how0 _ h).1; omega
  refine ⟨w.heap.size + 1, [{ target := .collected w.heap.size, args := #[] }], W1, { target := .fn (.func gf) lb, args := #[.func (.yield (w.heap.size + 1)) #[] #[]] }, W1, gf,
    #[.func (.yield (w.heap.size + 1)) #[] #[]] ++ lb, W1, ?_, ?_, ?_, ?_, fun h => by simp [Fence.wide] at h, ?_⟩
  · rw [← hW1, hrec]; exact run_enterLoop_outer _ _ _ _ _
  · simp only [resolve, hg]
    simp [go_sem]
  · intro f' _; trivial
  · simp [invoke, go_sem, eg]
  · refine callsIn_wide.2 ((hit (w.heap.size + 1)
      (fun k own W => I k own W ∧ W.heap[w.heap.size + 1]? = some (.loop (rec .ready none)) ∧ W.heap[w.heap.size]? = some (.deferred (some [])) ∧ ¬ own (w.heap.size + 1) ∧ ¬ own w.heap.size)
      (fun k own W => ∃ c, Ix c k own W ∧ W.heap[w.heap.size + 1]? = some (.loop (rec .done (some c))) ∧ W.heap[w.heap.size]? = some (.deferred (some [])) ∧ ¬ own (w.heap.size + 1) ∧ ¬ own w.heap.size)
      own0 W1 hb1 (by omega) (by omega) ?_ ?_ (fun b hb => ⟨by have := (how0 b hb).1; omega, (how0 b hb).2⟩) ?_ ⟨hI1, hL1, hK1, hnl, hnd⟩).mono ?_)
    · rintro k own W W' ⟨hi, hl, hd, h1, h2⟩ hc
      exact ⟨hI.up (by omega) _ _ _ _ hi hc, hc.heap hl (fun h => by omega), hc.heap hd (fun h => by omega), h1, h2⟩
    · rintro k own W W' ⟨c, hi, hl, hd, h1, h2⟩ hc
      exact ⟨c, (hIx c).up (by omega) _ _ _ _ hi hc, hc.heap hl (fun h => by omega), hc.heap hd (fun h => by omega), h1, h2⟩
    · rintro k own W args hk ⟨hi, hl, hd, h1, h2⟩ hsz how hel hG m
      have hr := round_law (P := P) w.heap.size (w.heap.size + 1) rec hrec I Ix hI hIx N El Gv hps (by omega) Ax (fun k own a' W o o' => hAx _ k own a' W o o' (by omega)) (fun n k own args W => hassign _ n k own args W (by omega)) (fun n k own a' W => hbody _ n k own a' W (by omega)) k own W args hk hi how hl h1 hel (fun b hb => ⟨by have := (hG b hb).1; omega, fun h => (hG b hb).2 h⟩) m
      refine hr.mono ?_
      have hdlt : w.heap.size < W.heap.size := (Array.getElem?_eq_some_iff.1 hd).1
      rintro e W' ⟨own', hg', ho', hc', hn', hh⟩
      have hnd' : ¬ own' w.heap.size := fun h => by
        rcases hg'.2 _ h with h | h | h
        · exact h2 h
        · omega
        · have := (hG _ h).1; omega
      have hd' : W'.heap[w.heap.size]? = some (.deferred (some [])) := hc'.heap hd (fun h => by
        rcases h with h | h | h
        · exact h2 h
        · omega
        · have := (hG _ h).1; omega)
      refine ⟨own', hg', ho', hc', ?_⟩
      rcases hh with ⟨rfl, hi', hl'⟩ | ⟨rfl, c, hi', hl'⟩
      · exact .inl ⟨rfl, hi', hl', hd', hn', hnd'⟩
      · exact .inr ⟨rfl, c, hi', hl', hd', hn', hnd'⟩
    · rintro e W2 ⟨⟨v, rfl⟩, own', ho', (⟨hi, hl, hd, h1, h2⟩ | ⟨k, hk, c, hi, hl, hd, h1, h2⟩)⟩
      · refine ⟨none, _, by have := run_endLoop (P := P) hl (by rw [hrec]; simp); rw [hrec] at this; exact this, hdone _ own' _ (Nat.le_refl _) (fun b hb => by rw [World.putObj_size]; exact ho' b hb) h2 (hI _ _ _ _ hi ((Chg.refl _ _).putObj (fun _ => ⟨by omega, h1⟩) _)) ((World.putObj_heap_other (by omega)).trans hd)⟩
      · refine ⟨some c, _, by have := run_endLoop (P := P) hl (by rw [hrec]; simp); rw [hrec] at this; exact this, hstop _ c k own' _ (Nat.le_refl _) (fun b hb => by rw [World.putObj_size]; exact ho' b hb) h2 hk ((hIx c) _ _ _ _ hi ((Chg.refl _ _).putObj (fun _ => ⟨by omega, h1⟩) _)) ((World.putObj_heap_other (by omega)).trans hd)⟩

/-- The law, at a loop that lies in a round of loop l₀. -/
theorem range_inner {P : Program} {n : Nat} {g : Operand} {ps : Array Tmp} {assign body : Code} {Q : Exit → Act → World → Prop} {a : Act} {w : World} {l₀ : Nat} {r₀ : Loop} (hr₀ : w.heap[l₀]? = some (.loop r₀)) {gf : Nat} {lb : Array Value} {N : Nat} {El : Nat → World → Array Value → Prop} {Gv : Array Value → Nat → Prop} {Rd : Nat → Prop}
    (hit : ItC P gf lb N El Gv Rd w) (hg : a.eval g = .func (.func gf) #[] lb) (eg : ∀ args w, (callFunc gf args).run P w = .ok (.enter gf args) w)
    (I : Nat → (Nat → Prop) → World → Prop) (Ix : Code → Nat → (Nat → Prop) → World → Prop) (own0 : Nat → Prop) (hI : Stable w.heap.size I) (hIx : ∀ c, Stable w.heap.size (Ix c))
    (hps : ∀ k W args, El k W args → args.size = ps.size) (how0 : ∀ b, own0 b → b < w.heap.size ∧ ¬ Rd b) (h0 : I 0 own0 w)
    (Ax : Nat → (Nat → Prop) → Act → World → Prop) (hAx : ∀ l k own a' W o o', w.heap.size ≤ l → Ax k own a' W → W.heap[l]? = some o → o.isCells = false → Ax k own a' (W.putObj l o'))
    (hassign : ∀ l n k own args W, w.heap.size ≤ l → I k own W → (∀ b, own b → b < W.heap.size) → l < W.heap.size → ¬ own l → k < N → El k W args → (∀ b, Gv args b → ¬ own b) →
      assign.wpIn (Fence.wide.inRound l) n P (Exit.then (fun a' W' => ∃ own', GrowG (Gv args) own own' W ∧ (∀ b, own' b → b < W'.heap.size) ∧ Chg own W W' ∧ I k own' W' ∧ Ax k own' a' W') (fun _ _ _ => False))
        { tmps := (ps.zip args).foldl (fun t (p, v) => t.setIfInBounds p v) a.tmps, defers := [] } W)
    (hbody : ∀ l n k own a' W, w.heap.size ≤ l → I k own W → (∀ b, own b → b < W.heap.size) → (∃ r, W.heap[l]? = some (.loop r)) → ¬ own l → k < N → Ax k own a' W → body.wpIn (Fence.wide.inRound l) n P (roundQ I Ix k own W) a' W)
    (hdone : ∀ own W, (∀ b, own b → b < W.heap.size) → I N own W → Q .normal a W)
    (hstop : ∀ c k own W, (∀ b, own b → b < W.heap.size) → k ≤ N → Ix c k own W → c.wpIn (Fence.wide.inRound l₀) n P Q a W) :
    (Code.rangeFunc g ps assign body).wpIn (Fence.wide.inRound l₀) n P Q a w := by
  refine wpIn_rangeFunc ?_
  intro fn hfn
  obtain ⟨rec, hrec⟩ : ∃ rec : LoopState → Option Code → Loop, rec = fun st pe => { state := st, pending := pe, fn, tmps := a.tmps, params := ps, assign, body, defers := r₀.defers } := ⟨_, rfl⟩
  obtain ⟨W1, hW1⟩ : ∃ W1, w.alloc (.loop (rec .ready none)) = W1 := ⟨_, rfl⟩
  have hL1 : W1.heap[w.heap.size]? = some (.loop (rec .ready none)) := by rw [← hW1]; exact World.alloc_heap_new w _
  have hS1 : W1.heap.size = w.heap.size + 1 := by rw [← hW1]; simp
  have hI1 : I 0 own0 W1 := by rw [← hW1]; exact hI _ _ _ _ h0 ((Chg.refl _ w).alloc _)
  have hb1 : Below w.heap.size w W1 := by rw [← hW1]; exact (Below.refl _ w).alloc (Nat.le_refl _) _
  have hnl : ¬ own0 w.heap.size := fun h => by have := (how0 _ h).1; omega
  refine ⟨w.heap.size, [], W1, { target := .fn (.func gf) lb, args := #[.func (.yield w.heap.size) #[] #[]] }, W1, gf,
    #[.func (.yield w.heap.size) #[] #[]] ++ lb, W1, ?_, ?_, ?_, ?_, fun h => by simp [Fence.wide] at h, ?_⟩
  · rw [← hW1, hrec]; exact run_enterLoop_inner hr₀ _ _ _ _ _
  · simp only [resolve, hg]
    simp [go_sem]
  · intro f' _; trivial
  · simp [invoke, go_sem, eg]
  · refine (callsIn_wide (n := n - 1)).2 ((hit w.heap.size
      (fun k own W => I k own W ∧ W.heap[w.heap.size]? = some (.loop (rec .ready none)) ∧ ¬ own w.heap.size)
      (fun k own W => ∃ c, Ix c k own W ∧ W.heap[w.heap.size]? = some (.loop (rec .done (some c))) ∧ ¬ own w.heap.size)
      own0 W1 hb1 (by omega) (by omega) ?_ ?_ (fun b hb => ⟨by have := (how0 b hb).1; omega, (how0 b hb).2⟩) ?_ ⟨hI1, hL1, hnl⟩).mono ?_)
    · rintro k own W W' ⟨hi, hl, h1⟩ hc
      exact ⟨hI.up (by omega) _ _ _ _ hi hc, hc.heap hl (fun h => by omega), h1⟩
    · rintro k own W W' ⟨c, hi, hl, h1⟩ hc
      exact ⟨c, (hIx c).up (by omega) _ _ _ _ hi hc, hc.heap hl (fun h => by omega), h1⟩
    · rintro k own W args hk ⟨hi, hl, h1⟩ hsz how hel hG m
      have hr := round_law (P := P) w.heap.size w.heap.size rec hrec I Ix hI hIx N El Gv hps (by omega) Ax (fun k own a' W o o' => hAx _ k own a' W o o' (by omega)) (fun n k own args W => hassign _ n k own args W (by omega)) (fun n k own a' W => hbody _ n k own a' W (by omega)) k own W args hk hi how hl h1 hel (fun b hb => ⟨by have := (hG b hb).1; omega, fun h => (hG b hb).2 h⟩) m
      refine hr.mono ?_
      rintro e W' ⟨own', hg', ho', hc', hn', hh⟩
      refine ⟨own', hg', ho', hc', ?_⟩
      rcases hh with ⟨rfl, hi', hl'⟩ | ⟨rfl, c, hi', hl'⟩
      · exact .inl ⟨rfl, hi', hl', hn'⟩
      · exact .inr ⟨rfl, c, hi', hl', hn'⟩
    · rintro e W2 ⟨⟨v, rfl⟩, own', ho', (⟨hi, hl, h1⟩ | ⟨k, hk, c, hi, hl, h1⟩)⟩
      · exact ⟨none, _, by have := run_endLoop (P := P) hl (by rw [hrec]; simp); rw [hrec] at this; exact this, hdone own' _ (fun b hb => by rw [World.putObj_size]; exact ho' b hb) (hI _ _ _ _ hi ((Chg.refl _ _).putObj (fun _ => ⟨by omega, h1⟩) _))⟩
      · exact ⟨some c, _, by have := run_endLoop (P := P) hl (by rw [hrec]; simp); rw [hrec] at this; exact this, hstop c k own' _ (fun b hb => by rw [World.putObj_size]; exact ho' b hb) hk ((hIx c) _ _ _ _ hi ((Chg.refl _ _).putObj (fun _ => ⟨by omega, h1⟩) _))⟩

end Go.Proofs.YtbmklpcheopgoaaIt

namespace Go.Proofs.YtbmklpcheopgoaaOps
open Go Go.RowKit Go.Proofs.YtbmklpcheopgoaaW.PrintWords Go.Proofs.YtbmklpcheopgoaaIt

theorem cell_far_lt {W w1 : World} {u : Value} {p : Addr} {v : Value} {B : Nat} (hg : W.grownBy w1 u.ownBlock) (h : W.cell? p = some v) (hu : ∀ k, u.ownBlock = some k → B ≤ k) (hp : p.block < B) : w1.cell? p = some v := by
  rw [hg.cell_far _ (World.block_lt_of_cell? W _ h) (fun e => by have := hu _ e.symm; omega)]; exact h
theorem cell_far_ge {W w1 : World} {u : Value} {p : Addr} {v : Value} {B : Nat} (hg : W.grownBy w1 u.ownBlock) (h : W.cell? p = some v) (hu : ∀ k, u.ownBlock = some k → k < B) (hp : B ≤ p.block) : w1.cell? p = some v := by
  rw [hg.cell_far _ (World.block_lt_of_cell? W _ h) (fun e => by have := hu _ e.symm; omega)]; exact h

section
variable {P : Program} {ops : Array Oper} {o : Oper} {a : Act} {Q : Exit → Act → World → Prop} {Kc : Act → World → Prop} {α : Type} {E : Prop}
/-- append(v, x) within a region that draws its order; the world at hand is any that is the one with the variadic's box. -/
theorem R_append_at (d : Kd α) {w0 W W1 : World} (base : Nat) (hgd : o.guard = none) (s x : Operand) (t e : TypeId) (z : Value) (bytes : Nat)
    (ho : o.op = .call { callee := .builtin .append, args := #[s, x], argTypes := #[t, t] })
    (ht : P.underlying t = some (.slice e)) (hinfo : (P.info? e).map (fun i => (i.zero, i.size, i.bytes)) = some (some z, d.sz, bytes)) (hz : z.cells.size = d.sz) (hs0 : 0 < d.sz) (hb0 : 0 < bytes)
    (v : Value) (xs : List α) (p : α) (cs : List Value) (hs : a.eval s = v) (H : Nat) (hx : a.eval x = .slice (some ⟨H, 0, none⟩) 1 1) (hH : W.heap.size = H) (hp : d.M W base (fun _ => False) p cs)
    (HO : d.R e W base (fun _ => True) v xs) (HB : Below base w0 W) (hbase : base ≤ W.heap.size) (hl : (xs.length + 1) * bytes ≤ 140737488355328) (hW : W1 = W.alloc (.cells cs.toArray e))
    (h : ∀ v1 w1, d.R e w1 base (fun _ => True) v1 (xs ++ [p]) → Below base w0 w1 → W.grownBy w1 v.ownBlock → (v1.ownBlock = v.ownBlock ∨ ∃ b, v1.ownBlock = some b ∧ W.heap.size ≤ b) → Kc (a.put o.dst v1) w1) :
    if Region.wanted o (yielded ops a.tmps) = true then Oper.wp P o a W1 Kc Q else E := by
  have hw : Region.wanted o (yielded ops a.tmps) = true := by simp [Region.wanted, hgd]
  subst hW
  subst hH
  have := Kd.R_append_step (ops := ops) (Q := Q) d (w0 := w0) base hw s x t e z bytes ho ht hinfo hz hs0 hb0 v xs p cs (fun _ => True) (fun _ => False) hs hx hp (fun _ h => h.elim) (fun _ _ => trivial) HO HB hbase hl h
  rw [if_pos hw] at this ⊢
  exact this
end

section
variable {P : Program} {ops : Array Oper} {rest : List Oper} {o : Oper} {a : Act} {Q : Exit → Act → World → Prop} {Kc : Act → World → Prop} {E : Prop} {s x : Operand} {t : TypeId} {v y v1 : Value} {W w1 : World}
/-- An append whose run is known: within a region that draws its order. -/
theorem app_reg (hgd : o.guard = none) (ho : o.op = .call { callee := .builtin .append, args := #[s, x], argTypes := #[t, t] }) (hs : a.eval s = v) (hx : a.eval x = y)
    (hr : (Builtin.append_ #[t, t] o.type #[v, y]).run P W = .ok v1 w1) (h : Kc (a.put o.dst v1) w1) : if Region.wanted o (yielded ops a.tmps) = true then Oper.wp P o a W Kc Q else E := by
  have hw : Region.wanted o (yielded ops a.tmps) = true := by simp [Region.wanted, hgd]
  rw [if_pos hw]
  unfold Oper.wp execOp
  simp only [ho, resolve, invoke, builtin, Sem.run_bind, Sem.run_pure, Result.andThen_ok, List.map_toArray, List.map_cons, List.map_nil, hs, hx, hr]
  exact h
/-- .. in a list of operations. -/
theorem app_list (hgd : o.guard = none) (ho : o.op = .call { callee := .builtin .append, args := #[s, x], argTypes := #[t, t] }) (hs : a.eval s = v) (hx : a.eval x = y)
    (hr : (Builtin.append_ #[t, t] o.type #[v, y]).run P W = .ok v1 w1) (h : wpList P ops Q rest (a.put o.dst v1) w1) : wpList P ops Q (o :: rest) a W := by
  refine wpList_plain hgd fun K hK => ?_
  unfold Oper.wp execOp
  simp only [ho, resolve, invoke, builtin, Sem.run_bind, Sem.run_pure, Result.andThen_ok, List.map_toArray, List.map_cons, List.map_nil, hs, hx, hr]
  exact hK _ _ h
/-- .. inside a fence. -/
theorem app_listIn {F : Fence} {n : Nat} (hgd : o.guard = none) (ho : o.op = .call { callee := .builtin .append, args := #[s, x], argTypes := #[t, t] }) (hs : a.eval s = v) (hx : a.eval x = y)
    (hr : (Builtin.append_ #[t, t] o.type #[v, y]).run P W = .ok v1 w1) (h : wpListIn F n P ops Q rest (a.put o.dst v1) w1) : wpListIn F n P ops Q (o :: rest) a W := by
  refine wpListIn_plain hgd fun K hK => ?_
  unfold Oper.wpIn
  refine ⟨?_, ?_⟩
  · simp [Oper.about, ho, resolve, Target.leads, Sem.run_pure]
  · rw [Oper.semAt_plain F _ _ (by rw [ho]; intro c hc'; cases hc')]
    simp [execOp, ho, resolve, invoke, builtin, hs, hx, hr, Result.andThen]
    exact hK _ _ h
end

section
variable {P : Program} {α : Type}
theorem one_of_reads (d : Kd α) {W : World} {ys : List α} {news : List Value} (hs0 : 0 < d.sz) (h : Reps (d.K W) d.sz ys news) : ∀ u ∈ news, u.oneCell' = true := by
  intro u hu
  obtain ⟨q, hq, rfl⟩ := List.mem_iff_getElem.1 hu
  have hql : q / d.sz < ys.length := by
    rw [Nat.div_lt_iff_lt_mul hs0]
    rw [← h.1]
    exact hq
  have hc := h.2 (q / d.sz) _ (List.getElem?_eq_getElem hql)
  refine d.K_one hc _ ?_
  rw [List.mem_iff_getElem?]
  refine ⟨q % d.sz, ?_⟩
  rw [List.getElem?_take, if_pos (Nat.mod_lt _ hs0), List.getElem?_drop, Nat.mul_comm, Nat.div_add_mod, List.getElem?_eq_getElem hq]

theorem C_of_row (d : Kd α) {W : World} {g n cap : Nat} {e : TypeId} {b : Nat} {inner : List Value} {xs : List α} (h : W.ownsRow b e d.sz (.slice (some ⟨g, 0, none⟩) n cap) n inner) (hr : Reps (d.K W) d.sz xs inner) (hn : xs.length = n) : d.C W (some ⟨g, 0, none⟩) n xs := by
  obtain ⟨A, c, e1, hC⟩ := own_reads_row h hr hn
  injection e1 with e1
  subst e1
  exact hC

/-- append(s, x...), s full: nothing more, or a new row. -/
theorem run_full (d : Kd α) {W : World} {t ty e : TypeId} {z : Value} {bytes : Nat} (ht : P.underlying t = some (.slice e)) (hinfo : (P.info? e).map (fun i => (i.zero, i.size, i.bytes)) = some (some z, d.sz, bytes)) (hz : z.cells.size = d.sz) (hs0 : 0 < d.sz) (hb0 : 0 < bytes)
    {A B : Option Addr} {n c m c' : Nat} {xs ys : List α} (hA : d.C W A n xs) (hB : d.C W B m ys) (hnc : n ≤ c) (hfull : c < n + m ∨ m = 0) (hl : (n + m) * bytes ≤ 140737488355328) (hnone : A = none → c = 0) :
    ∃ A1 c1 w1, (Builtin.append_ #[t, t] ty #[.slice A n c, .slice B m c']).run P W = .ok (.slice A1 (n + m) c1) w1 ∧ n + m ≤ c1 ∧ d.C w1 A1 (n + m) (xs ++ ys) ∧ Below W.heap.size W w1 := by
  obtain ⟨i0, hi, hzz⟩ := Option.map_eq_some_iff.1 hinfo
  simp only [Prod.mk.injEq] at hzz
  obtain ⟨hz0, hz1, hz2⟩ := hzz
  have hlen : n + m ≤ 140737488355328 := Nat.le_trans (Nat.le_mul_of_pos_right _ hb0) hl
  rcases Nat.eq_zero_or_pos m with rfl | hm
  · obtain rfl : ys = [] := List.eq_nil_of_length_eq_zero hB.1
    refine ⟨A, c, W, ?_, by simpa using hnc, by simpa using hA, Below.refl _ _⟩
    cases A <;> cases B <;> simp [Builtin.append_, run_underlying ht, sizeOf, typeInfo, hi, Builtin.lenOf, Builtin.firstCells, hnc, storeCells, loadCells, loadCellsFrom, Result.andThen]
  · obtain ⟨ad, rfl, _⟩ := hB.2.2 hm
    obtain ⟨news, hnr, hnews⟩ := ReadsRow.inner_ hB
    have hone := one_of_reads d hs0 hnr
    have hcap : c < n + m := by omega
    have mk : ∀ {olds : List Value} {v1 : Value} {w1 : World}, Reps (d.K W) d.sz xs olds → w1.ownsRow W.heap.size e d.sz v1 (n + m) (olds ++ news) → W.grownBy w1 none →
        ∃ A1 c1, v1 = .slice A1 (n + m) c1 ∧ n + m ≤ c1 ∧ d.C w1 A1 (n + m) (xs ++ ys) ∧ Below W.heap.size W w1 := by
      intro olds v1 w1 hor hown hg
      have hb : Below W.heap.size W w1 := ⟨hg.os, hg.tape, hg.output, hg.size, fun k hk => hg.block k hk (by simp)⟩
      have hreps : Reps (d.K w1) d.sz (xs ++ ys) (olds ++ news) := Kd.reps_append (hor.imp_ fun _ _ => d.K_below hb) (hnr.imp_ fun _ _ => d.K_below hb)
      obtain ⟨A1, c1, e1, hC⟩ := own_reads_row hown hreps (by rw [List.length_append, hA.1, hB.1])
      refine ⟨A1, c1, e1, ?_, hC, hb⟩
      rcases hown.2 with ⟨h1, h2⟩ | ⟨g, cap, cur, h1, _, _, h2, _⟩
      · omega
      · rw [e1] at h1; injection h1 with h3 h4 h5; omega
    rcases A with _ | b
    · have hc0 := hnone rfl
      obtain rfl : n = 0 := by omega
      obtain rfl : xs = [] := List.eq_nil_of_length_eq_zero hA.1
      subst hc0
      obtain ⟨v', w', hrun, r1, r2, _⟩ := run_append_own (P := P) W W.heap.size t ty e i0 z d.sz bytes ht hi hz0 hz1 hz2 hz hs0 (.slice none 0 0) 0 [] (World.ownsRow_nil W _ e d.sz) ad m c' news (by rw [hnr.1, hB.1]) hnews hone (by simp only [maxLen]; omega) hl (Nat.le_refl _)
      obtain ⟨A1, c1, rfl, h1, h2, h3⟩ := mk (olds := []) (Reps.none _ _) r1 r2
      exact ⟨A1, c1, w', hrun, h1, h2, h3⟩
    · obtain ⟨olds, hor, holds⟩ : ∃ olds, Reps (d.K W) d.sz xs olds ∧ ∀ j u, olds[j]? = some u → W.cell? (b.add j) = some u := by
        rcases Nat.eq_zero_or_pos n with rfl | hn
        · obtain rfl : xs = [] := List.eq_nil_of_length_eq_zero hA.1
          exact ⟨[], Reps.none _ _, fun j u h => by simp at h⟩
        · exact ReadsRow.inner_ hA
      obtain ⟨v', w', hrun, r1, r2⟩ := run_append_arg_grows (P := P) W t ty e i0 z d.sz bytes ht hi hz0 hz1 hz2 hz hs0 b n c olds (by rw [hor.1, hA.1]) holds ad m c' news (by rw [hnr.1, hB.1]) hnews hcap (by simp only [maxLen]; omega) hl
      obtain ⟨A1, c1, rfl, h1, h2, h3⟩ := mk hor r1 r2
      exact ⟨A1, c1, w', hrun, h1, h2, h3⟩
/-- .. and the new row's block is new. -/
theorem run_fresh (d : Kd α) {W : World} {t ty e : TypeId} {z : Value} {bytes : Nat} (ht : P.underlying t = some (.slice e)) (hinfo : (P.info? e).map (fun i => (i.zero, i.size, i.bytes)) = some (some z, d.sz, bytes)) (hz : z.cells.size = d.sz) (hs0 : 0 < d.sz) (hb0 : 0 < bytes)
    {A B : Option Addr} {n c m c' : Nat} {xs ys : List α} (hA : d.C W A n xs) (hB : d.C W B m ys) (hnc : n ≤ c) (hfull : c < n + m ∨ m = 0) (hl : (n + m) * bytes ≤ 140737488355328) (hnone : A = none → c = 0) :
    ∃ A1 c1 w1, (Builtin.append_ #[t, t] ty #[.slice A n c, .slice B m c']).run P W = .ok (.slice A1 (n + m) c1) w1 ∧ n + m ≤ c1 ∧ d.C w1 A1 (n + m) (xs ++ ys) ∧ Below W.heap.size W w1 ∧ (0 < m → ∃ g, A1 = some ⟨g, 0, none⟩ ∧ W.heap.size ≤ g) := by
  obtain ⟨i0, hi, hzz⟩ := Option.map_eq_some_iff.1 hinfo
  simp only [Prod.mk.injEq] at hzz
  obtain ⟨hz0, hz1, hz2⟩ := hzz
  have hlen : n + m ≤ 140737488355328 := Nat.le_trans (Nat.le_mul_of_pos_right _ hb0) hl
  rcases Nat.eq_zero_or_pos m with rfl | hm
  · obtain rfl : ys = [] := List.eq_nil_of_length_eq_zero hB.1
    refine ⟨A, c, W, ?_, by simpa using hnc, by simpa using hA, Below.refl _ _, fun h => absurd h (by omega)⟩
    cases A <;> cases B <;> simp [Builtin.append_, run_underlying ht, sizeOf, typeInfo, hi, Builtin.lenOf, Builtin.firstCells, hnc, storeCells, loadCells, loadCellsFrom, Result.andThen]
  · obtain ⟨ad, rfl, _⟩ := hB.2.2 hm
    obtain ⟨news, hnr, hnews⟩ := ReadsRow.inner_ hB
    have hone := one_of_reads d hs0 hnr
    have hcap : c < n + m := by omega
    have mk : ∀ {olds : List Value} {v1 : Value} {w1 : World}, Reps (d.K W) d.sz xs olds → w1.ownsRow W.heap.size e d.sz v1 (n + m) (olds ++ news) → W.grownBy w1 none →
        ∃ A1 c1, v1 = .slice A1 (n + m) c1 ∧ n + m ≤ c1 ∧ d.C w1 A1 (n + m) (xs ++ ys) ∧ Below W.heap.size W w1 ∧ (∃ g, A1 = some ⟨g, 0, none⟩ ∧ W.heap.size ≤ g) := by
      intro olds v1 w1 hor hown hg
      have hb : Below W.heap.size W w1 := ⟨hg.os, hg.tape, hg.output, hg.size, fun k hk => hg.block k hk (by simp)⟩
      have hreps : Reps (d.K w1) d.sz (xs ++ ys) (olds ++ news) := Kd.reps_append (hor.imp_ fun _ _ => d.K_below hb) (hnr.imp_ fun _ _ => d.K_below hb)
      obtain ⟨A1, c1, e1, hC⟩ := own_reads_row hown hreps (by rw [List.length_append, hA.1, hB.1])
      refine ⟨A1, c1, e1, ?_, hC, hb, ?_⟩
      rotate_left
      · rcases hown.2 with ⟨h1, h2⟩ | ⟨g, cap, cur, h1, hg1, _⟩
        · omega
        · rw [e1] at h1; injection h1 with h3 h4 h5; exact ⟨g, h3, hg1⟩
      rcases hown.2 with ⟨h1, h2⟩ | ⟨g, cap, cur, h1, _, _, h2, _⟩
      · omega
      · rw [e1] at h1; injection h1 with h3 h4 h5; omega
    rcases A with _ | b
    · have hc0 := hnone rfl
      obtain rfl : n = 0 := by omega
      obtain rfl : xs = [] := List.eq_nil_of_length_eq_zero hA.1
      subst hc0
      obtain ⟨v', w', hrun, r1, r2, _⟩ := run_append_own (P := P) W W.heap.size t ty e i0 z d.sz bytes ht hi hz0 hz1 hz2 hz hs0 (.slice none 0 0) 0 [] (World.ownsRow_nil W _ e d.sz) ad m c' news (by rw [hnr.1, hB.1]) hnews hone (by simp only [maxLen]; omega) hl (Nat.le_refl _)
      obtain ⟨A1, c1, rfl, h1, h2, h3, h4⟩ := mk (olds := []) (Reps.none _ _) r1 r2
      exact ⟨A1, c1, w', hrun, h1, h2, h3, fun _ => h4⟩
    · obtain ⟨olds, hor, holds⟩ : ∃ olds, Reps (d.K W) d.sz xs olds ∧ ∀ j u, olds[j]? = some u → W.cell? (b.add j) = some u := by
        rcases Nat.eq_zero_or_pos n with rfl | hn
        · obtain rfl : xs = [] := List.eq_nil_of_length_eq_zero hA.1
          exact ⟨[], Reps.none _ _, fun j u h => by simp at h⟩
        · exact ReadsRow.inner_ hA
      obtain ⟨v', w', hrun, r1, r2⟩ := run_append_arg_grows (P := P) W t ty e i0 z d.sz bytes ht hi hz0 hz1 hz2 hz hs0 b n c olds (by rw [hor.1, hA.1]) holds ad m c' news (by rw [hnr.1, hB.1]) hnews hcap (by simp only [maxLen]; omega) hl
      obtain ⟨A1, c1, rfl, h1, h2, h3, h4⟩ := mk hor r1 r2
      exact ⟨A1, c1, w', hrun, h1, h2, h3, fun _ => h4⟩
end
end Go.Proofs.YtbmklpcheopgoaaOps

namespace Go.Proofs.YtbmklpcheopgoaaBlks
open Go Go.RowKit Go.Proofs.YtbmklpcheopgoaaIt Go.Proofs.YtbmklpcheopgoaaW.PrintWords

/-- Blocks, no two of them one, and what each of them is. -/
structure Blks (H : List (Nat × Obj)) (w : World) : Prop where
  nd : (H.map Prod.fst).Nodup
  at_ : ∀ p ∈ H, w.heap[p.1]? = some p.2

theorem Blks.nil (w : World) : Blks [] w := ⟨by simp, fun p h => by cases h⟩
theorem Blks.lt {H : List (Nat × Obj)} {w : World} (h : Blks H w) : ∀ b ∈ H.map Prod.fst, b < w.heap.size := by
  intro b hb
  obtain ⟨p, hp, rfl⟩ := List.mem_map.1 hb
  exact (Array.getElem?_eq_some_iff.1 (h.at_ p hp)).1
theorem Blks.alloc {H : List (Nat × Obj)} {w : World} (h : Blks H w) (o : Obj) : Blks ((w.heap.size, o) :: H) (w.alloc o) := by
  refine ⟨?_, ?_⟩
  · rw [List.map_cons, List.nodup_cons]
    exact ⟨fun hm => Nat.lt_irrefl _ (h.lt _ hm), h.nd⟩
  · intro p hp
    rcases List.mem_cons.1 hp with rfl | hp
    · exact World.alloc_heap_new w o
    · exact (Below.heap_alloc _ _ _ (h.lt _ (List.mem_map.2 ⟨p, hp, rfl⟩))).trans (h.at_ p hp)
theorem Blks.alloc_at {H : List (Nat × Obj)} {w : World} (h : Blks H w) (o : Obj) {g : Nat} (hg : g = w.heap.size) : Blks ((g, o) :: H) (w.alloc o) := by subst hg; exact h.alloc o
theorem Blks.add {H : List (Nat × Obj)} {w : World} (h : Blks H w) {b : Nat} {o : Obj} (hb : w.heap[b]? = some o) (hn : b ∉ H.map Prod.fst) : Blks ((b, o) :: H) w :=
  ⟨by rw [List.map_cons, List.nodup_cons]; exact ⟨hn, h.nd⟩, fun p hp => by
    rcases List.mem_cons.1 hp with rfl | hp
    · exact hb
    · exact h.at_ p hp⟩
theorem Blks.drew {H : List (Nat × Obj)} {w : World} (h : Blks H w) : Blks H w.drew := ⟨h.nd, h.at_⟩
theorem Blks.drewN {H : List (Nat × Obj)} {w : World} (h : Blks H w) (n : Nat) : Blks H (w.drewN n) := ⟨h.nd, h.at_⟩
theorem Blks.sub {H H' : List (Nat × Obj)} {w : World} (h : Blks H w) (hs : H'.Sublist H) : Blks H' w := ⟨(hs.map _).nodup h.nd, fun p hp => h.at_ p (hs.subset hp)⟩
theorem Blks.perm {H H' : List (Nat × Obj)} {w : World} (h : Blks H w) (hs : H.Perm H') : Blks H' w := ⟨(hs.map _).nodup_iff.1 h.nd, fun p hp => h.at_ p (hs.mem_iff.2 hp)⟩
theorem Blks.chg {H : List (Nat × Obj)} {w w' : World} {S : Nat → Prop} (h : Blks H w) (hc : Chg S w w') (hS : ∀ b ∈ H.map Prod.fst, ¬ S b) : Blks H w' :=
  ⟨h.nd, fun p hp => hc.heap (h.at_ p hp) (hS _ (List.mem_map.2 ⟨p, hp, rfl⟩))⟩
theorem Blks.below {H : List (Nat × Obj)} {w w' : World} (h : Blks H w) (hb : Below w.heap.size w w') : Blks H w' := h.chg (Chg.of_fresh (S := fun _ => False) hb) (fun _ _ => id)
theorem Blks.tail {H : List (Nat × Obj)} {p : Nat × Obj} {w : World} (h : Blks (p :: H) w) : Blks H w := h.sub (List.sublist_cons_self _ _)
/-- The k-th one, with other cells. -/
theorem Blks.put {H : List (Nat × Obj)} {w w' : World} {b : Nat} {o o' : Obj} (h : Blks H w) (k : Nat) (hk : H[k]? = some (b, o)) (hc : Chg (fun i => i = b) w w') (hb : w'.heap[b]? = some o') : Blks (H.set k (b, o')) w' := by
  have hlt : k < H.length := (List.getElem?_eq_some_iff.1 hk).1
  have hk' : H[k] = (b, o) := (List.getElem?_eq_some_iff.1 hk).2
  refine ⟨?_, ?_⟩
  · have e : (H.set k (b, o')).map Prod.fst = H.map Prod.fst := by
      rw [List.map_set]
      refine List.ext_getElem (by simp) ?_
      intro i h1 h2
      by_cases hi : k = i
      · subst hi; simp [hk']
      · simp [List.getElem_set_ne hi]
    rw [e]; exact h.nd
  · intro p hp
    rw [List.mem_iff_getElem] at hp
    obtain ⟨i, hi, rfl⟩ := hp
    rw [List.length_set] at hi
    by_cases e : k = i
    · subst e; simpa using hb
    · rw [List.getElem_set_ne e]
      refine hc.heap (h.at_ _ (List.getElem_mem hi)) (fun hh => e ?_)
      have hnd := h.nd
      have h1 : (H.map Prod.fst)[k]'(by simpa using hlt) = (H.map Prod.fst)[i]'(by simpa using hi) := by simp [hk', hh]
      rcases Nat.lt_trichotomy k i with hlt' | hlt' | hlt'
      · exact absurd h1 ((List.pairwise_iff_getElem.1 hnd) k i (by simpa using hlt) (by simpa using hi) hlt')
      · exact hlt'
      · exact absurd h1.symm ((List.pairwise_iff_getElem.1 hnd) i k (by simpa using hi) (by simpa using hlt) hlt')
theorem Blks.set {H : List (Nat × Obj)} {w : World} {b : Nat} {cs : Array Value} {t : TypeId} (h : Blks H w) (k : Nat) (hk : H[k]? = some (b, .cells cs t (0, 0))) (j : Nat) (v : Value) :
    Blks (H.set k (b, .cells (cs.setIfInBounds j v) t (0, 0))) (w.setCell ⟨b, j, none⟩ v) :=
  h.put k hk (Chg.setCell (S := fun i => i = b) (Chg.refl _ _) (p := ⟨b, j, none⟩) (fun _ => rfl) v) (blk_set (h.at_ _ (List.mem_of_getElem? hk)) j v)
theorem Blks.blk {H : List (Nat × Obj)} {w : World} {b : Nat} {o : Obj} (h : Blks H w) (k : Nat) (hk : H[k]? = some (b, o)) : w.heap[b]? = some o := h.at_ _ (List.mem_of_getElem? hk)

theorem Blks.cell {H : List (Nat × Obj)} {w : World} {b : Nat} {cs : Array Value} {t : TypeId} (h : Blks H w) (k : Nat) (hk : H[k]? = some (b, .cells cs t (0, 0))) (j : Nat) : w.cell? ⟨b, j, none⟩ = cs[j]? := blk_cell (h.blk k hk) j
theorem Blks.free {H : List (Nat × Obj)} {w : World} {b : Nat} {cs : Array Value} {t : TypeId} (h : Blks H w) (k : Nat) (hk : H[k]? = some (b, .cells cs t (0, 0))) (j : Nat) : w.frozen? ⟨b, j, none⟩ = false := blk_frozen (h.blk k hk) j

theorem Blks.put_ {H : List (Nat × Obj)} {w : World} {l : Nat} {o o' : Obj} (h : Blks H w) (hH : ∀ p ∈ H, p.2.isCells = true) (ho : w.heap[l]? = some o) (hn : o.isCells = false) : Blks H (w.putObj l o') :=
  h.chg (Chg.putSelf _ l o') (fun b hb e => by
    obtain ⟨p, hp, rfl⟩ := List.mem_map.1 hb
    have h1 := h.at_ p hp
    rw [e, ho] at h1
    cases h1
    rw [hH p hp] at hn
    cases hn)

/-- What the cells of the blocks hold, cell by cell. -/
def cellsF (w : World) (b : Nat) : Nat → List Value → Prop
  | _, [] => True
  | j, v :: vs => (w.cell? ⟨b, j, none⟩ = some v ∧ w.frozen? ⟨b, j, none⟩ = false) ∧ cellsF w b (j + 1) vs
def factsF (w : World) : List (Nat × Obj) → Prop
  | [] => True
  | (b, .cells cs _ fr) :: H => (fr = (0, 0) → cellsF w b 0 cs.toList) ∧ factsF w H
  | _ :: H => factsF w H
def neF1 (b : Nat) : List Nat → Prop
  | [] => True
  | c :: cs => (¬ b = c ∧ ¬ c = b) ∧ neF1 b cs
def neF : List Nat → Prop
  | [] => True
  | b :: bs => neF1 b bs ∧ neF bs
theorem cellsF_of {w : World} {b : Nat} {t : TypeId} : ∀ (vs : List Value) (j : Nat) (cs : Array Value), w.heap[b]? = some (.cells cs t (0, 0)) → cs.toList.drop j = vs → cellsF w b j vs
  | [], _, _, _, _ => trivial
  | v :: vs, j, cs, h, e => by
    have hj : cs[j]? = some v := by
      have := congrArg (fun l => l[0]?) e
      simpa [List.getElem?_drop] using this
    refine ⟨⟨(blk_cell h j).trans hj, blk_frozen h j⟩, cellsF_of vs (j + 1) cs h ?_⟩
    have := congrArg (List.drop 1) e
    simpa [List.drop_drop] using this
theorem factsF_of {w : World} : ∀ (H : List (Nat × Obj)), (∀ p ∈ H, w.heap[p.1]? = some p.2) → factsF w H
  | [], _ => trivial
  | (b, o) :: H, h => by
    have h1 := factsF_of H (fun p hp => h p (List.mem_cons_of_mem _ hp))
    have h0 := h (b, o) (List.mem_cons_self)
    cases o with
    | cells cs t fr => exact ⟨fun e => by subst e; exact cellsF_of _ 0 cs h0 (by simp), h1⟩
    | _ => exact h1
theorem neF1_of {b : Nat} : ∀ (cs : List Nat), b ∉ cs → neF1 b cs
  | [], _ => trivial
  | c :: cs, h => ⟨⟨fun e => h (by simp [e]), fun e => h (by simp [e])⟩, neF1_of cs (fun hm => h (List.mem_cons_of_mem _ hm))⟩
theorem neF_of : ∀ (bs : List Nat), bs.Nodup → neF bs
  | [], _ => trivial
  | b :: bs, h => by rw [List.nodup_cons] at h; exact ⟨neF1_of bs h.1, neF_of bs h.2⟩
theorem Blks.facts {H : List (Nat × Obj)} {w : World} (h : Blks H w) : factsF w H ∧ neF (H.map Prod.fst) := ⟨factsF_of H h.at_, neF_of _ h.nd⟩
theorem Blks.cells {H : List (Nat × Obj)} {w : World} (h : Blks H w) : factsF w H := factsF_of H h.at_
theorem Blks.ne {H : List (Nat × Obj)} {w : World} (h : Blks H w) : neF (H.map Prod.fst) := neF_of _ h.nd
end Go.Proofs.YtbmklpcheopgoaaBlks

namespace Go.Proofs.YtbmklpcheopgoaaReg
open Go

/-- An order in which each operation stands behind all that it waits for. -/
def topoB (ops : Array Oper) : List Nat → List Nat → Bool
  | [], _ => true
  | i :: is, done => (match ops[i]? with | some o => o.after.all fun e => !Region.binds .any e || done.contains e.on | none => false) && topoB ops is (i :: done)

theorem topo_listed {ops : Array Oper} {listed : Array Bool} (hr : Region.ready .any ops listed = []) : ∀ (is done : List Nat), topoB ops is done = true → (∀ i ∈ done, listed.getD i false = true) → (∀ i ∈ is, i < ops.size → listed.size = ops.size → listed.getD i false = true)
  | [], _, _, _ => fun i hi => by cases hi
  | i :: is, done, h, hd => by
    intro j hj hlt hs
    unfold topoB at h
    simp only [Bool.and_eq_true] at h
    have hi : i < ops.size → listed.getD i false = true := by
      intro hlt'
      by_cases hl : listed.getD i false = true
      · exact hl
      · have h1 := h.1
        rw [Array.getElem?_eq_getElem hlt'] at h1
        have hall := Array.all_eq_true_iff_forall_mem.1 h1
        have : i ∈ Region.ready .any ops listed := by
          refine mem_ready.2 ⟨?_, _, Array.getElem?_eq_getElem hlt', fun e he hb => ?_⟩
          · simp only [Array.getD, hs, hlt'] at hl ⊢
            simpa using hl
          · have := hall e he
            simp only [hb, Bool.not_true, Bool.false_or, List.contains_iff_mem] at this
            exact hd _ (by simpa using this)
        rw [hr] at this
        cases this
    rcases List.mem_cons.1 hj with rfl | hj
    · exact hi hlt
    · refine topo_listed hr is (i :: done) h.2 (fun k hk => ?_) j hj hlt hs
      rcases List.mem_cons.1 hk with rfl | hk
      · have h1 := h.1
        cases ho : ops[k]? with
        | none => rw [ho] at h1; cases h1
        | some o => exact hi (Array.getElem?_eq_some_iff.1 ho).1
      · exact hd k hk

section
variable {F : Fence} {n : Nat} {P : Program} {ops : Array Oper} {Q : Exit → Act → World → Prop} {id : Nat}

theorem anyIn_inv (is : List Nat) (ht : topoB ops is [] = true) (hall : (List.range ops.size).all is.contains = true) (Inv : Array Bool → Act → World → Prop) (hsz : ∀ l a w, Inv l a w → l.size = ops.size)
    (hstep : ∀ l a w i o, Inv l a w → ops[i]? = some o → l.getD i true = false → (∀ e ∈ o.after, Region.binds .any e = true → l.getD e.on false = true) →
      ∀ K : Act → World → Prop, (∀ a' w', Inv (l.setIfInBounds i true) a' w' → K a' w') → wpOpIn F n P ops Q i K a w)
    (hend : ∀ l a w, Inv l a w → (∀ i, i < ops.size → l.getD i false = true) → Q .normal a w) :
    ∀ (fuel : Nat) (l : Array Bool) (a : Act) (w : World), Inv l a w → (l.toList.count false ≤ fuel) → wpAnyIn F n P .any ops Q fuel l a w := by
  have fin : ∀ l a w, Inv l a w → Region.ready .any ops l = [] → Q .normal a w := fun l a w hi hr => hend l a w hi fun i hlt =>
    topo_listed hr is [] ht (fun i h => by cases h) i (by have := List.all_eq_true.1 hall i (List.mem_range.2 hlt); simpa using this) hlt (hsz l a w hi)
  intro fuel
  induction fuel with
  | zero =>
    intro l a w hi hc
    have hr : Region.ready .any ops l = [] := by
      refine List.eq_nil_iff_forall_not_mem.2 fun i hm => ?_
      obtain ⟨hf, o, ho, _⟩ := mem_ready.1 hm
      have hlt : i < l.size := by rw [hsz l a w hi]; exact (Array.getElem?_eq_some_iff.1 ho).1
      have : false ∈ l.toList := by
        simp only [Array.getD, hlt, dite_true] at hf
        rw [← hf]
        simp
      have := List.count_pos_iff.2 this
      omega
    exact ⟨hr, fin l a w hi hr⟩
  | succ fuel ih =>
    intro l a w hi hc
    refine ⟨fin l a w hi, fun i hm => ?_⟩
    obtain ⟨hf, o, ho, hw⟩ := mem_ready.1 hm
    refine hstep l a w i o hi ho hf (fun e he hb => hw e he hb) _ fun a' w' hi' => ih _ a' w' hi' ?_
    have hlt : i < l.size := by rw [hsz l a w hi]; exact (Array.getElem?_eq_some_iff.1 ho).1
    have h1 : l[i] = false := by simpa [Array.getD, hlt] using hf
    have : (l.setIfInBounds i true).toList.count false + 1 = l.toList.count false := by
      have hpos : 0 < l.toList.count false := List.count_pos_iff.2 (by rw [← h1]; simp)
      rw [Array.toList_setIfInBounds, List.count_set (by simpa using hlt)]
      have e1 : (l.toList[i]'(by simpa using hlt) == false) = true := by simp [h1]
      have e2 : (true == false) = false := rfl
      rw [if_pos e1, e2, if_neg (by decide)]
      omega
    omega

theorem regIn_inv {a : Act} {w : World} (hm : P.follows .mixedOrders = true) (is : List Nat) (ht : topoB ops is [] = true) (hall : (List.range ops.size).all is.contains = true) (Inv : Array Bool → Act → World → Prop) (hsz : ∀ l a w, Inv l a w → l.size = ops.size)
    (h0 : Inv (Array.replicate ops.size false) a w.drew)
    (hstep : ∀ l a w i o, Inv l a w → ops[i]? = some o → l.getD i true = false → (∀ e ∈ o.after, Region.binds .any e = true → l.getD e.on false = true) →
      ∀ K : Act → World → Prop, (∀ a' w', Inv (l.setIfInBounds i true) a' w' → K a' w') → wpOpIn F n P ops Q i K a w)
    (hend : ∀ l a w, Inv l a w → (∀ i, i < ops.size → l.getD i false = true) → Q .normal a w) : (Code.region id ops true).wpIn F n P Q a w :=
  wpIn_region_any hm (anyIn_inv is ht hall Inv hsz hstep hend ops.size _ a _ h0 (by simp))

theorem any_inv (is : List Nat) (ht : topoB ops is [] = true) (hall : (List.range ops.size).all is.contains = true) (Inv : Array Bool → Act → World → Prop) (hsz : ∀ l a w, Inv l a w → l.size = ops.size)
    (hstep : ∀ l a w i o, Inv l a w → ops[i]? = some o → l.getD i true = false → (∀ e ∈ o.after, Region.binds .any e = true → l.getD e.on false = true) →
      ∀ K : Act → World → Prop, (∀ a' w', Inv (l.setIfInBounds i true) a' w' → K a' w') → wpOp P ops Q i K a w)
    (hend : ∀ l a w, Inv l a w → (∀ i, i < ops.size → l.getD i false = true) → Q .normal a w) :
    ∀ (fuel : Nat) (l : Array Bool) (a : Act) (w : World), Inv l a w → (l.toList.count false ≤ fuel) → wpAny P .any ops Q fuel l a w := by
  have fin : ∀ l a w, Inv l a w → Region.ready .any ops l = [] → Q .normal a w := fun l a w hi hr => hend l a w hi fun i hlt =>
    topo_listed hr is [] ht (fun i h => by cases h) i (by have := List.all_eq_true.1 hall i (List.mem_range.2 hlt); simpa using this) hlt (hsz l a w hi)
  intro fuel
  induction fuel with
  | zero =>
    intro l a w hi hc
    have hr : Region.ready .any ops l = [] := by
      refine List.eq_nil_iff_forall_not_mem.2 fun i hm => ?_
      obtain ⟨hf, o, ho, _⟩ := mem_ready.1 hm
      have hlt : i < l.size := by rw [hsz l a w hi]; exact (Array.getElem?_eq_some_iff.1 ho).1
      have : false ∈ l.toList := by
        simp only [Array.getD, hlt, dite_true] at hf
        rw [← hf]
        simp
      have := List.count_pos_iff.2 this
      omega
    exact ⟨hr, fin l a w hi hr⟩
  | succ fuel ih =>
    intro l a w hi hc
    refine ⟨fin l a w hi, fun i hm => ?_⟩
    obtain ⟨hf, o, ho, hw⟩ := mem_ready.1 hm
    refine hstep l a w i o hi ho hf (fun e he hb => hw e he hb) _ fun a' w' hi' => ih _ a' w' hi' ?_
    have hlt : i < l.size := by rw [hsz l a w hi]; exact (Array.getElem?_eq_some_iff.1 ho).1
    have h1 : l[i] = false := by simpa [Array.getD, hlt] using hf
    have : (l.setIfInBounds i true).toList.count false + 1 = l.toList.count false := by
      have hpos : 0 < l.toList.count false := List.count_pos_iff.2 (by rw [← h1]; simp)
      rw [Array.toList_setIfInBounds, List.count_set (by simpa using hlt)]
      have e1 : (l.toList[i]'(by simpa using hlt) == false) = true := by simp [h1]
      have e2 : (true == false) = false := rfl
      rw [if_pos e1, e2, if_neg (by decide)]
      omega
    omega

theorem reg_inv {a : Act} {w : World} (hm : P.follows .mixedOrders = true) (is : List Nat) (ht : topoB ops is [] = true) (hall : (List.range ops.size).all is.contains = true) (Inv : Array Bool → Act → World → Prop) (hsz : ∀ l a w, Inv l a w → l.size = ops.size)
    (h0 : Inv (Array.replicate ops.size false) a w.drew)
    (hstep : ∀ l a w i o, Inv l a w → ops[i]? = some o → l.getD i true = false → (∀ e ∈ o.after, Region.binds .any e = true → l.getD e.on false = true) →
      ∀ K : Act → World → Prop, (∀ a' w', Inv (l.setIfInBounds i true) a' w' → K a' w') → wpOp P ops Q i K a w)
    (hend : ∀ l a w, Inv l a w → (∀ i, i < ops.size → l.getD i false = true) → Q .normal a w) : (Code.region id ops true).wp P Q a w :=
  wp_region_any hm (any_inv is ht hall Inv hsz hstep hend ops.size _ a _ h0 (by simp))

theorem opIn_val {a : Act} {w w1 : World} {i : Nat} {o : Oper} {K : Act → World → Prop} {v : Value} (ho : ops[i]? = some o) (hg : o.guard = none) (hfn : ∀ f, F.fn f) (hnd : ∀ c, o.op ≠ .defer c)
    (hrun : (execOp a.eval o).run P w = .ok (.value v) w1) (hK : K (a.put o.dst v) w1) : wpOpIn F n P ops Q i K a w := by
  unfold wpOpIn
  rw [ho]
  have hw : Region.wanted o (yielded ops a.tmps) = true := by simp [Region.wanted, hg]
  simp only [hw, if_true]
  unfold Oper.wpIn
  refine ⟨fun f _ => hfn f, ?_⟩
  rw [Oper.semAt_plain F _ _ hnd, hrun]
  exact hK
theorem opIn_skip {a : Act} {w w1 : World} {i : Nat} {o : Oper} {K : Act → World → Prop} (ho : ops[i]? = some o) (hg : o.guard = none) (hfn : ∀ f, F.fn f) (hnd : ∀ c, o.op ≠ .defer c)
    (hrun : (execOp a.eval o).run P w = .ok .skip w1) (hK : K (a.put o.dst undef) w1) : wpOpIn F n P ops Q i K a w := by
  unfold wpOpIn
  rw [ho]
  have hw : Region.wanted o (yielded ops a.tmps) = true := by simp [Region.wanted, hg]
  simp only [hw, if_true]
  unfold Oper.wpIn
  refine ⟨fun f _ => hfn f, ?_⟩
  rw [Oper.semAt_plain F _ _ hnd, hrun]
  exact hK
theorem opIn_wp {a : Act} {w : World} {i : Nat} {o : Oper} {K : Act → World → Prop} (ho : ops[i]? = some o) (hg : o.guard = none) (h : Oper.wpIn F n P o a w K Q) : wpOpIn F n P ops Q i K a w := by
  unfold wpOpIn
  rw [ho]
  have hw : Region.wanted o (yielded ops a.tmps) = true := by simp [Region.wanted, hg]
  simp only [hw, if_true]
  exact h
theorem op_val {a : Act} {w w1 : World} {i : Nat} {o : Oper} {K : Act → World → Prop} {v : Value} (ho : ops[i]? = some o) (hg : o.guard = none)
    (hrun : (execOp a.eval o).run P w = .ok (.value v) w1) (hK : K (a.put o.dst v) w1) : wpOp P ops Q i K a w := by
  unfold wpOp
  rw [ho]
  have hw : Region.wanted o (yielded ops a.tmps) = true := by simp [Region.wanted, hg]
  simp only [hw, if_true]
  refine .inl ?_
  unfold Oper.wp
  rw [hrun]
  exact hK
theorem op_skip {a : Act} {w w1 : World} {i : Nat} {o : Oper} {K : Act → World → Prop} (ho : ops[i]? = some o) (hg : o.guard = none)
    (hrun : (execOp a.eval o).run P w = .ok .skip w1) (hK : K (a.put o.dst undef) w1) : wpOp P ops Q i K a w := by
  unfold wpOp
  rw [ho]
  have hw : Region.wanted o (yielded ops a.tmps) = true := by simp [Region.wanted, hg]
  simp only [hw, if_true]
  refine .inl ?_
  unfold Oper.wp
  rw [hrun]
  exact hK
theorem op_wp {a : Act} {w : World} {i : Nat} {o : Oper} {K : Act → World → Prop} (ho : ops[i]? = some o) (hg : o.guard = none) (h : Oper.wp P o a w K Q) : wpOp P ops Q i K a w := by
  unfold wpOp
  rw [ho]
  have hw : Region.wanted o (yielded ops a.tmps) = true := by simp [Region.wanted, hg]
  simp only [hw, if_true]
  exact .inl h
end
end Go.Proofs.YtbmklpcheopgoaaReg

namespace Go.Proofs.Ytbmklpcheopgoaa.H
open Go.RowKit Go.Proofs.YtbmklpcheopgoaaW.PrintWords Go.Proofs.YtbmklpcheopgoaaW.PrintLast Go.Proofs.YtbmklpcheopgoaaW.PrintMore
attribute [local go_sem] max2_int min2_int max_two min_two max_three min_three max_four min_four
set_option linter.unusedVariables false
set_option linter.unusedSimpArgs false
open Go.Proofs.YtbmklpcheopgoaaOps Go.Proofs.YtbmklpcheopgoaaBlks Go.Proofs.YtbmklpcheopgoaaIt
attribute [local go_sem] World.cell?_alloc_some
def boxStep (st : S33 × S33) (i : Nat) (p : S33) : S33 × S33 :=
 let st : S33 × S33 := if i = 0 then (⟨p.f0, p.f1, false⟩, ⟨p.f0, p.f1, false⟩) else st
 (⟨min st.1.f0 p.f0, min st.1.f1 p.f1, st.1.f2⟩, ⟨max st.2.f0 p.f0, max st.2.f1 p.f1, st.2.f2⟩)
def boxSt (pts : List S33) (k : Nat) : S33 × S33 := (List.range k).foldl (fun st i => boxStep st i (rd_T33 pts i)) (z33, z33)
theorem boxSt_succ (pts : List S33) (k : Nat) : boxSt pts (k + 1) = boxStep (boxSt pts k) k (rd_T33 pts k) := by simp [boxSt, List.range_succ]
def boxPt (p : S33) : Obj := .cells #[.int .i64 p.f0, .int .i64 p.f1, .bool p.f2] 33 (0, 0)
set_option maxRecDepth 100000 in
set_option maxHeartbeats 4000000 in
theorem box_calls (A0 : Option Addr) (c0 : Nat) (pts : List S33) (v1 : Value) (w : World) (hr0 : Kd.C k33 w A0 pts.length pts) (hc0 : pts.length ≤ c0) :
  Calls Try.prog 19 #[.agg #[.slice A0 pts.length c0, v1]] w fun e w' => e = .returned (.tuple #[.agg #[.int .i64 (boxSt pts pts.length).1.f0, .int .i64 (boxSt pts pts.length).1.f1, .bool (boxSt pts pts.length).1.f2], .agg #[.int .i64 (boxSt pts pts.length).2.f0, .int .i64 (boxSt pts pts.length).2.f1, .bool (boxSt pts pts.length).2.f2], .bool (decide (0 < pts.length))]) ∧ Below w.heap.size w w' := by
 have hu := Try.underlying33
 have hu2 := Try.underlying25
 have hmx := Kd.C_max hr0
 have HR0 := aM hr0
 clear hr0
 go_enter Try.func19, Try.ntmps19
 go_wp2
 go_loopw [5, 6, 10] (fun _ _ v10 wr => ∃ i : Nat, i ≤ pts.length ∧ v10 = .int .i64 i ∧ Aside0 (Blks [(w.heap.size + 1 + 1, boxPt (boxSt pts i).2), (w.heap.size + 1, boxPt (boxSt pts i).1), (w.heap.size, .cells #[.slice A0 pts.length c0, v1] 25 (0, 0))] wr ∧ Below w.heap.size w wr))
  (fun _ _ v10 _ => pts.length - (intOf v10).toNat)
 case atStart => exact ⟨0, by omega, rfl, ⟨(((Blks.nil w).alloc _).alloc_at _ (by simp)).alloc_at _ (by simp), ((((Below.refl _ _).alloc (Nat.le_refl _) _).alloc (by simp) _).alloc (by simp; omega) _)⟩⟩
 case round =>
  obtain ⟨i, hi, rfl, ⟨HB, HW⟩⟩ := hrel
  have hlt2 := Lib.hid HB.lt
  by_cases hlt : i < pts.length
  ·
   obtain ⟨ad0, e0, hx0, hx1, hx2⟩ := at_T33 HR0.out (i : Int) (by omega) (by omega)
   cases e0
   replace hx0 := (HW.cell (World.block_lt_of_cell? w _ hx0)).trans hx0
   replace hx1 := (HW.cell (World.block_lt_of_cell? w _ hx1)).trans hx1
   replace hx2 := (HW.cell (World.block_lt_of_cell? w _ hx2)).trans hx2
   simp only [Int.toNat_natCast] at hx0 hx1 hx2
   have hsz : w.heap.size + 1 + 1 < wr.heap.size := hlt2.out _ (by simp)
   have HS := Lib.hid hsz
   clear hlt2 hsz
   by_cases hz : i = 0
   ·
    have hz' : ((i : Int) == 0) = true := by simpa using hz
    have HZ := Lib.hid hz
    clear hz
    go_wp2
    replace HB := (HB.alloc (.cells #[.int .i64 (rd_T33 pts i).f0, .int .i64 (rd_T33 pts i).f1, .bool (rd_T33 pts i).f2] 33))
    replace HW := (HW.alloc HW.size (.cells #[.int .i64 (rd_T33 pts i).f0, .int .i64 (rd_T33 pts i).f1, .bool (rd_T33 pts i).f2] 33))
    refine Go.Proofs.YtbmklpcheopgoaaReg.reg_inv (by rfl) [0, 1, 2, 3, 4, 5, 6, 7, 8, 9, 10, 11] (by kernel_rfl) (by kernel_rfl)
     (fun lst a W' => ∃ (b0 b1 b2 b3 b4 b5 b6 b7 b8 b9 b10 b11 : Bool), lst = #[b0, b1, b2, b3, b4, b5, b6, b7, b8, b9, b10, b11] ∧ a = ⟨#[.agg #[.slice (some ad0) pts.length c0, v1], .pointer (some ⟨w.heap.size, 0, none⟩), .pointer (some ⟨(w.heap.size + 1), 0, none⟩), .pointer (some ⟨(w.heap.size + 1 + 1), 0, none⟩), .bool false, .int .i64 i, .pointer (some ⟨wr.heap.size, 0, none⟩), .pointer (some ⟨w.heap.size, 0, none⟩), .slice (some ad0) pts.length c0, .int .i64 pts.length, .int .i64 i, .bool true, .int .i64 i, .pointer (some (ad0.add (i * 3))), .agg #[.int .i64 (rd_T33 pts i).f0, .int .i64 (rd_T33 pts i).f1, .bool (rd_T33 pts i).f2], .int .i64 i, .bool true, (cond b0 (.pointer (some ⟨wr.heap.size, 0, none⟩)) u17), (cond b1 (.int .i64 ((rd_T33 pts i).f0)) u18), (cond b2 (.pointer (some ⟨wr.heap.size, 1, none⟩)) u19), (cond b3 (.int .i64 ((rd_T33 pts i).f1)) u20), (cond b4 (.agg #[.int .i64 ((rd_T33 pts i).f0), .int .i64 ((rd_T33 pts i).f1), .bool false]) u21), (cond b5 (.pointer (some ⟨wr.heap.size, 0, none⟩)) u22), (cond b6 (.int .i64 ((rd_T33 pts i).f0)) u23), (cond b7 (.pointer (some ⟨wr.heap.size, 1, none⟩)) u24), (cond b8 (.int .i64 ((rd_T33 pts i).f1)) u25), (cond b9 (.agg #[.int .i64 ((rd_T33 pts i).f0), .int .i64 ((rd_T33 pts i).f1), .bool false]) u26), u27, u28, u29, u30, u31, u32, u33, u34, u35, u36, u37, u38, u39, u40, u41, u42, u43, u44, u45, u46, u47, u48, u49, u50, u51, undef, undef, undef, undef, undef, undef], []⟩ ∧ (Blks [(wr.heap.size, .cells #[.int .i64 ((rd_T33 pts i).f0), .int .i64 ((rd_T33 pts i).f1), .bool (rd_T33 pts i).f2] 33 (0, 0)), ((w.heap.size + 1 + 1), .cells #[cond b11 (.int .i64 ((rd_T33 pts i).f0)) (.int .i64 (boxSt pts i).2.f0), cond b11 (.int .i64 ((rd_T33 pts i).f1)) (.int .i64 (boxSt pts i).2.f1), cond b11 (.bool false) (.bool (boxSt pts i).2.f2)] 33 (0, 0)), ((w.heap.size + 1), .cells #[cond b10 (.int .i64 ((rd_T33 pts i).f0)) (.int .i64 (boxSt pts i).1.f0), cond b10 (.int .i64 ((rd_T33 pts i).f1)) (.int .i64 (boxSt pts i).1.f1), cond b10 (.bool false) (.bool (boxSt pts i).1.f2)] 33 (0, 0)), (w.heap.size, .cells #[.slice (some ad0) pts.length c0, v1] 25 (0, 0))] W') ∧ (Below w.heap.size w W')) ?_ ?_ ?_ ?_
    ·
     rintro lst a W' ⟨b0, b1, b2, b3, b4, b5, b6, b7, b8, b9, b10, b11, rfl, _⟩
     rfl
    ·
     exact ⟨false, false, false, false, false, false, false, false, false, false, false, false, rfl, rfl, HB.drew, below_drew HW⟩
    ·
     rintro lst a W' i o ⟨b0, b1, b2, b3, b4, b5, b6, b7, b8, b9, b10, b11, rfl, rfl, hHB, hHW⟩ ho hf hd K hK
     have hi : i < 12 := (Array.getElem?_eq_some_iff.1 ho).1
     have ho2 := ho
     rcases (show i = 0 ∨ i = 1 ∨ i = 2 ∨ i = 3 ∨ i = 4 ∨ i = 5 ∨ i = 6 ∨ i = 7 ∨ i = 8 ∨ i = 9 ∨ i = 10 ∨ i = 11 by omega) with rfl | rfl | rfl | rfl | rfl | rfl | rfl | rfl | rfl | rfl | rfl | rfl
     ·
      simp only [List.getElem?_toArray, List.getElem?_cons_succ, List.getElem?_cons_zero, Option.some.injEq] at ho
      subst ho
      replace hf : b0 = false := hf
      subst hf
      refine Go.Proofs.YtbmklpcheopgoaaReg.op_val ho2 rfl (v := .pointer (some ⟨wr.heap.size, 0, none⟩)) (w1 := W') ?_ (hK _ _ ⟨true, b1, b2, b3, b4, b5, b6, b7, b8, b9, b10, b11, rfl, rfl, hHB, hHW⟩)
      simp [go_sem, hu]
     ·
      simp only [List.getElem?_toArray, List.getElem?_cons_succ, List.getElem?_cons_zero, Option.some.injEq] at ho
      subst ho
      replace hf : b1 = false := hf
      have d0 : b0 = true := hd ⟨0, .data⟩ (by simp) rfl
      subst d0
      subst hf
      refine Go.Proofs.YtbmklpcheopgoaaReg.op_val ho2 rfl (v := .int .i64 ((rd_T33 pts i).f0)) (w1 := W') ?_ (hK _ _ ⟨true, true, b2, b3, b4, b5, b6, b7, b8, b9, b10, b11, rfl, rfl, hHB, hHW⟩)
      simp [go_sem, hu, (Blks.cell hHB 0 rfl 0)]
     ·
      simp only [List.getElem?_toArray, List.getElem?_cons_succ, List.getElem?_cons_zero, Option.some.injEq] at ho
      subst ho
      replace hf : b2 = false := hf
      subst hf
      refine Go.Proofs.YtbmklpcheopgoaaReg.op_val ho2 rfl (v := .pointer (some ⟨wr.heap.size, 1, none⟩)) (w1 := W') ?_ (hK _ _ ⟨b0, b1, true, b3, b4, b5, b6, b7, b8, b9, b10, b11, rfl, rfl, hHB, hHW⟩)
      simp [go_sem, hu]
     ·
      simp only [List.getElem?_toArray, List.getElem?_cons_succ, List.getElem?_cons_zero, Option.some.injEq] at ho
      subst ho
      replace hf : b3 = false := hf
      have d2 : b2 = true := hd ⟨2, .data⟩ (by simp) rfl
      subst d2
      subst hf
      refine Go.Proofs.YtbmklpcheopgoaaReg.op_val ho2 rfl (v := .int .i64 ((rd_T33 pts i).f1)) (w1 := W') ?_ (hK _ _ ⟨b0, b1, true, true, b4, b5, b6, b7, b8, b9, b10, b11, rfl, rfl, hHB, hHW⟩)
      simp [go_sem, hu, (Blks.cell hHB 0 rfl 1)]
     ·
      simp only [List.getElem?_toArray, List.getElem?_cons_succ, List.getElem?_cons_zero, Option.some.injEq] at ho
      subst ho
      replace hf : b4 = false := hf
      have d1 : b1 = true := hd ⟨1, .data⟩ (by simp) rfl
      have d3 : b3 = true := hd ⟨3, .data⟩ (by simp) rfl
      subst d1
      subst d3
      subst hf
      refine Go.Proofs.YtbmklpcheopgoaaReg.op_val ho2 rfl (v := .agg #[.int .i64 ((rd_T33 pts i).f0), .int .i64 ((rd_T33 pts i).f1), .bool false]) (w1 := W') ?_ (hK _ _ ⟨b0, true, b2, true, true, b5, b6, b7, b8, b9, b10, b11, rfl, rfl, hHB, hHW⟩)
      simp [go_sem, hu]
     ·
      simp only [List.getElem?_toArray, List.getElem?_cons_succ, List.getElem?_cons_zero, Option.some.injEq] at ho
      subst ho
      replace hf : b5 = false := hf
      subst hf
      refine Go.Proofs.YtbmklpcheopgoaaReg.op_val ho2 rfl (v := .pointer (some ⟨wr.heap.size, 0, none⟩)) (w1 := W') ?_ (hK _ _ ⟨b0, b1, b2, b3, b4, true, b6, b7, b8, b9, b10, b11, rfl, rfl, hHB, hHW⟩)
      simp [go_sem, hu]
     ·
      simp only [List.getElem?_toArray, List.getElem?_cons_succ, List.getElem?_cons_zero, Option.some.injEq] at ho
      subst ho
      replace hf : b6 = false := hf
      have d5 : b5 = true := hd ⟨5, .data⟩ (by simp) rfl
      subst d5
      subst hf
      refine Go.Proofs.YtbmklpcheopgoaaReg.op_val ho2 rfl (v := .int .i64 ((rd_T33 pts i).f0)) (w1 := W') ?_ (hK _ _ ⟨b0, b1, b2, b3, b4, true, true, b7, b8, b9, b10, b11, rfl, rfl, hHB, hHW⟩)
      simp [go_sem, hu, (Blks.cell hHB 0 rfl 0)]
     ·
      simp only [List.getElem?_toArray, List.getElem?_cons_succ, List.getElem?_cons_zero, Option.some.injEq] at ho
      subst ho
      replace hf : b7 = false := hf
      subst hf
      refine Go.Proofs.YtbmklpcheopgoaaReg.op_val ho2 rfl (v := .pointer (some ⟨wr.heap.size, 1, none⟩)) (w1 := W') ?_ (hK _ _ ⟨b0, b1, b2, b3, b4, b5, b6, true, b8, b9, b10, b11, rfl, rfl, hHB, hHW⟩)
      simp [go_sem, hu]
     ·
      simp only [List.getElem?_toArray, List.getElem?_cons_succ, List.getElem?_cons_zero, Option.some.injEq] at ho
      subst ho
      replace hf : b8 = false := hf
      have d7 : b7 = true := hd ⟨7, .data⟩ (by simp) rfl
      subst d7
      subst hf
      refine Go.Proofs.YtbmklpcheopgoaaReg.op_val ho2 rfl (v := .int .i64 ((rd_T33 pts i).f1)) (w1 := W') ?_ (hK _ _ ⟨b0, b1, b2, b3, b4, b5, b6, true, true, b9, b10, b11, rfl, rfl, hHB, hHW⟩)
      simp [go_sem, hu, (Blks.cell hHB 0 rfl 1)]
     ·
      simp only [List.getElem?_toArray, List.getElem?_cons_succ, List.getElem?_cons_zero, Option.some.injEq] at ho
      subst ho
      replace hf : b9 = false := hf
      have d6 : b6 = true := hd ⟨6, .data⟩ (by simp) rfl
      have d8 : b8 = true := hd ⟨8, .data⟩ (by simp) rfl
      subst d6
      subst d8
      subst hf
      refine Go.Proofs.YtbmklpcheopgoaaReg.op_val ho2 rfl (v := .agg #[.int .i64 ((rd_T33 pts i).f0), .int .i64 ((rd_T33 pts i).f1), .bool false]) (w1 := W') ?_ (hK _ _ ⟨b0, b1, b2, b3, b4, b5, true, b7, true, true, b10, b11, rfl, rfl, hHB, hHW⟩)
      simp [go_sem, hu]
     ·
      simp only [List.getElem?_toArray, List.getElem?_cons_succ, List.getElem?_cons_zero, Option.some.injEq] at ho
      subst ho
      replace hf : b10 = false := hf
      have d0 : b0 = true := hd ⟨0, .phase⟩ (by simp) rfl
      have d1 : b1 = true := hd ⟨1, .phase⟩ (by simp) rfl
      have d2 : b2 = true := hd ⟨2, .phase⟩ (by simp) rfl
      have d3 : b3 = true := hd ⟨3, .phase⟩ (by simp) rfl
      have d4 : b4 = true := hd ⟨4, .data⟩ (by simp) rfl
      subst d0
      subst d1
      subst d2
      subst d3
      subst d4
      subst hf
      refine Go.Proofs.YtbmklpcheopgoaaReg.op_skip ho2 rfl (w1 := (((W'.setCell ⟨(w.heap.size + 1), 0, none⟩ (.int .i64 ((rd_T33 pts i).f0))).setCell ⟨(w.heap.size + 1), 1, none⟩ (.int .i64 ((rd_T33 pts i).f1))).setCell ⟨(w.heap.size + 1), 2, none⟩ (.bool false))) ?_ (hK _ _ ⟨true, true, true, true, true, b5, b6, b7, b8, b9, true, b11, rfl, rfl, (Blks.set (Blks.set (Blks.set hHB 2 rfl 0 (.int .i64 ((rd_T33 pts i).f0))) 2 rfl 1 (.int .i64 ((rd_T33 pts i).f1))) 2 rfl 2 (.bool false)), (Below.setCell (Below.setCell (Below.setCell hHW (by dsimp only; omega) (.int .i64 ((rd_T33 pts i).f0))) (by dsimp only; omega) (.int .i64 ((rd_T33 pts i).f1))) (by dsimp only; omega) (.bool false))⟩)
      simp [go_sem, hu, (Blks.cell hHB 2 rfl 0), (Blks.cell hHB 2 rfl 1), (Blks.cell hHB 2 rfl 2), (Blks.free hHB 2 rfl 0), (Blks.free hHB 2 rfl 1), (Blks.free hHB 2 rfl 2)]
     ·
      simp only [List.getElem?_toArray, List.getElem?_cons_succ, List.getElem?_cons_zero, Option.some.injEq] at ho
      subst ho
      replace hf : b11 = false := hf
      have d0 : b0 = true := hd ⟨0, .phase⟩ (by simp) rfl
      have d1 : b1 = true := hd ⟨1, .phase⟩ (by simp) rfl
      have d2 : b2 = true := hd ⟨2, .phase⟩ (by simp) rfl
      have d3 : b3 = true := hd ⟨3, .phase⟩ (by simp) rfl
      have d4 : b4 = true := hd ⟨4, .phase⟩ (by simp) rfl
      have d5 : b5 = true := hd ⟨5, .phase⟩ (by simp) rfl
      have d6 : b6 = true := hd ⟨6, .phase⟩ (by simp) rfl
      have d7 : b7 = true := hd ⟨7, .phase⟩ (by simp) rfl
      have d8 : b8 = true := hd ⟨8, .phase⟩ (by simp) rfl
      have d9 : b9 = true := hd ⟨9, .data⟩ (by simp) rfl
      have d10 : b10 = true := hd ⟨10, .chain⟩ (by simp) rfl
      subst d0
      subst d1
      subst d2
      subst d3
      subst d4
      subst d5
      subst d6
      subst d7
      subst d8
      subst d9
      subst d10
      subst hf
      refine Go.Proofs.YtbmklpcheopgoaaReg.op_skip ho2 rfl (w1 := (((W'.setCell ⟨(w.heap.size + 1 + 1), 0, none⟩ (.int .i64 ((rd_T33 pts i).f0))).setCell ⟨(w.heap.size + 1 + 1), 1, none⟩ (.int .i64 ((rd_T33 pts i).f1))).setCell ⟨(w.heap.size + 1 + 1), 2, none⟩ (.bool false))) ?_ (hK _ _ ⟨true, true, true, true, true, true, true, true, true, true, true, true, rfl, rfl, (Blks.set (Blks.set (Blks.set hHB 1 rfl 0 (.int .i64 ((rd_T33 pts i).f0))) 1 rfl 1 (.int .i64 ((rd_T33 pts i).f1))) 1 rfl 2 (.bool false)), (Below.setCell (Below.setCell (Below.setCell hHW (by dsimp only; omega) (.int .i64 ((rd_T33 pts i).f0))) (by dsimp only; omega) (.int .i64 ((rd_T33 pts i).f1))) (by dsimp only; omega) (.bool false))⟩)
      simp [go_sem, hu, (Blks.cell hHB 1 rfl 0), (Blks.cell hHB 1 rfl 1), (Blks.cell hHB 1 rfl 2), (Blks.free hHB 1 rfl 0), (Blks.free hHB 1 rfl 1), (Blks.free hHB 1 rfl 2)]
    ·
     rintro lst a W' ⟨b0, b1, b2, b3, b4, b5, b6, b7, b8, b9, b10, b11, rfl, rfl, hHB, hHW⟩ hall
     have a0 : b0 = true := hall 0 (by decide)
     have a1 : b1 = true := hall 1 (by decide)
     have a2 : b2 = true := hall 2 (by decide)
     have a3 : b3 = true := hall 3 (by decide)
     have a4 : b4 = true := hall 4 (by decide)
     have a5 : b5 = true := hall 5 (by decide)
     have a6 : b6 = true := hall 6 (by decide)
     have a7 : b7 = true := hall 7 (by decide)
     have a8 : b8 = true := hall 8 (by decide)
     have a9 : b9 = true := hall 9 (by decide)
     have a10 : b10 = true := hall 10 (by decide)
     have a11 : b11 = true := hall 11 (by decide)
     subst a0 a1 a2 a3 a4 a5 a6 a7 a8 a9 a10 a11
     clear hall
     have HB : Blks [(wr.heap.size, .cells #[.int .i64 ((rd_T33 pts i).f0), .int .i64 ((rd_T33 pts i).f1), .bool (rd_T33 pts i).f2] 33 (0, 0)), ((w.heap.size + 1 + 1), .cells #[.int .i64 ((rd_T33 pts i).f0), .int .i64 ((rd_T33 pts i).f1), .bool false] 33 (0, 0)), ((w.heap.size + 1), .cells #[.int .i64 ((rd_T33 pts i).f0), .int .i64 ((rd_T33 pts i).f1), .bool false] 33 (0, 0)), (w.heap.size, .cells #[.slice (some ad0) pts.length c0, v1] 25 (0, 0))] W' := hHB
     have HW : Below w.heap.size w W' := hHW
     clear hHB hHW
     go_wp2
     refine Go.Proofs.YtbmklpcheopgoaaReg.reg_inv (by rfl) [0, 1, 2, 3, 4, 5, 6, 7, 8, 9, 10, 11, 12, 13] (by kernel_rfl) (by kernel_rfl)
      (fun lst a W' => ∃ (b0 b1 b2 b3 b4 b5 b6 b7 b8 b9 b10 b11 b12 b13 : Bool), lst = #[b0, b1, b2, b3, b4, b5, b6, b7, b8, b9, b10, b11, b12, b13] ∧ a = ⟨#[.agg #[.slice (some ad0) pts.length c0, v1], .pointer (some ⟨w.heap.size, 0, none⟩), .pointer (some ⟨(w.heap.size + 1), 0, none⟩), .pointer (some ⟨(w.heap.size + 1 + 1), 0, none⟩), .bool false, .int .i64 i, .pointer (some ⟨wr.heap.size, 0, none⟩), .pointer (some ⟨w.heap.size, 0, none⟩), .slice (some ad0) pts.length c0, .int .i64 pts.length, .int .i64 i, .bool true, .int .i64 i, .pointer (some (ad0.add (i * 3))), .agg #[.int .i64 (rd_T33 pts i).f0, .int .i64 (rd_T33 pts i).f1, .bool (rd_T33 pts i).f2], .int .i64 i, .bool true, .pointer (some ⟨wr.heap.size, 0, none⟩), .int .i64 ((rd_T33 pts i).f0), .pointer (some ⟨wr.heap.size, 1, none⟩), .int .i64 ((rd_T33 pts i).f1), .agg #[.int .i64 ((rd_T33 pts i).f0), .int .i64 ((rd_T33 pts i).f1), .bool false], .pointer (some ⟨wr.heap.size, 0, none⟩), .int .i64 ((rd_T33 pts i).f0), .pointer (some ⟨wr.heap.size, 1, none⟩), .int .i64 ((rd_T33 pts i).f1), .agg #[.int .i64 ((rd_T33 pts i).f0), .int .i64 ((rd_T33 pts i).f1), .bool false], (cond b0 (.pointer (some ⟨(w.heap.size + 1), 0, none⟩)) u27), (cond b1 (.int .i64 ((rd_T33 pts i).f0)) u28), (cond b2 (.pointer (some ⟨wr.heap.size, 0, none⟩)) u29), (cond b3 (.int .i64 ((rd_T33 pts i).f0)) u30), (cond b4 (.int .i64 (min ((rd_T33 pts i).f0) ((rd_T33 pts i).f0))) u31), (cond b5 (.pointer (some ⟨(w.heap.size + 1), 1, none⟩)) u32), (cond b6 (.int .i64 ((rd_T33 pts i).f1)) u33), (cond b7 (.pointer (some ⟨wr.heap.size, 1, none⟩)) u34), (cond b8 (.int .i64 ((rd_T33 pts i).f1)) u35), (cond b9 (.int .i64 (min ((rd_T33 pts i).f1) ((rd_T33 pts i).f1))) u36), (cond b10 (.pointer (some ⟨(w.heap.size + 1), 0, none⟩)) u37), (cond b12 (.pointer (some ⟨(w.heap.size + 1), 1, none⟩)) u38), u39, u40, u41, u42, u43, u44, u45, u46, u47, u48, u49, u50, u51, undef, undef, undef, undef, undef, undef], []⟩ ∧ (b11 = true → b1 = true) ∧ (b13 = true → b6 = true) ∧ (Blks [(wr.heap.size, .cells #[.int .i64 ((rd_T33 pts i).f0), .int .i64 ((rd_T33 pts i).f1), .bool (rd_T33 pts i).f2] 33 (0, 0)), ((w.heap.size + 1 + 1), .cells #[.int .i64 ((rd_T33 pts i).f0), .int .i64 ((rd_T33 pts i).f1), .bool false] 33 (0, 0)), ((w.heap.size + 1), .cells #[cond b11 (.int .i64 (min ((rd_T33 pts i).f0) ((rd_T33 pts i).f0))) (.int .i64 ((rd_T33 pts i).f0)), cond b13 (.int .i64 (min ((rd_T33 pts i).f1) ((rd_T33 pts i).f1))) (.int .i64 ((rd_T33 pts i).f1)), .bool false] 33 (0, 0)), (w.heap.size, .cells #[.slice (some ad0) pts.length c0, v1] 25 (0, 0))] W') ∧ (Below w.heap.size w W')) ?_ ?_ ?_ ?_
     ·
      rintro lst a W' ⟨b0, b1, b2, b3, b4, b5, b6, b7, b8, b9, b10, b11, b12, b13, rfl, _⟩
      rfl
     ·
      exact ⟨false, false, false, false, false, false, false, false, false, false, false, false, false, false, rfl, rfl, (fun h => Bool.noConfusion h), (fun h => Bool.noConfusion h), HB.drew, below_drew HW⟩
     ·
      rintro lst a W' i o ⟨b0, b1, b2, b3, b4, b5, b6, b7, b8, b9, b10, b11, b12, b13, rfl, rfl, k0, k1, hHB, hHW⟩ ho hf hd K hK
      have hi : i < 14 := (Array.getElem?_eq_some_iff.1 ho).1
      have ho2 := ho
      rcases (show i = 0 ∨ i = 1 ∨ i = 2 ∨ i = 3 ∨ i = 4 ∨ i = 5 ∨ i = 6 ∨ i = 7 ∨ i = 8 ∨ i = 9 ∨ i = 10 ∨ i = 11 ∨ i = 12 ∨ i = 13 by omega) with rfl | rfl | rfl | rfl | rfl | rfl | rfl | rfl | rfl | rfl | rfl | rfl | rfl | rfl
      ·
       simp only [List.getElem?_toArray, List.getElem?_cons_succ, List.getElem?_cons_zero, Option.some.injEq] at ho
       subst ho
       replace hf : b0 = false := hf
       subst hf
       refine Go.Proofs.YtbmklpcheopgoaaReg.op_val ho2 rfl (v := .pointer (some ⟨(w.heap.size + 1), 0, none⟩)) (w1 := W') ?_ (hK _ _ ⟨true, b1, b2, b3, b4, b5, b6, b7, b8, b9, b10, b11, b12, b13, rfl, rfl, (k0), (k1), hHB, hHW⟩)
       simp [go_sem, hu]
      ·
       simp only [List.getElem?_toArray, List.getElem?_cons_succ, List.getElem?_cons_zero, Option.some.injEq] at ho
       subst ho
       replace hf : b1 = false := hf
       have d0 : b0 = true := hd ⟨0, .data⟩ (by simp) rfl
       subst d0
       have n11 : b11 = false := Bool.eq_false_iff.mpr (fun h => absurd (k0 h) (by rw [hf]; decide))
       subst n11
       subst hf
       refine Go.Proofs.YtbmklpcheopgoaaReg.op_val ho2 rfl (v := .int .i64 ((rd_T33 pts i).f0)) (w1 := W') ?_ (hK _ _ ⟨true, true, b2, b3, b4, b5, b6, b7, b8, b9, b10, false, b12, b13, rfl, rfl, (fun _ => rfl), (k1), hHB, hHW⟩)
       simp [go_sem, hu, (Blks.cell hHB 2 rfl 0)]
      ·
       simp only [List.getElem?_toArray, List.getElem?_cons_succ, List.getElem?_cons_zero, Option.some.injEq] at ho
       subst ho
       replace hf : b2 = false := hf
       subst hf
       refine Go.Proofs.YtbmklpcheopgoaaReg.op_val ho2 rfl (v := .pointer (some ⟨wr.heap.size, 0, none⟩)) (w1 := W') ?_ (hK _ _ ⟨b0, b1, true, b3, b4, b5, b6, b7, b8, b9, b10, b11, b12, b13, rfl, rfl, (k0), (k1), hHB, hHW⟩)
       simp [go_sem, hu]
      ·
       simp only [List.getElem?_toArray, List.getElem?_cons_succ, List.getElem?_cons_zero, Option.some.injEq] at ho
       subst ho
       replace hf : b3 = false := hf
       have d2 : b2 = true := hd ⟨2, .data⟩ (by simp) rfl
       subst d2
       subst hf
       refine Go.Proofs.YtbmklpcheopgoaaReg.op_val ho2 rfl (v := .int .i64 ((rd_T33 pts i).f0)) (w1 := W') ?_ (hK _ _ ⟨b0, b1, true, true, b4, b5, b6, b7, b8, b9, b10, b11, b12, b13, rfl, rfl, (k0), (k1), hHB, hHW⟩)
       simp [go_sem, hu, (Blks.cell hHB 0 rfl 0)]
      ·
       simp only [List.getElem?_toArray, List.getElem?_cons_succ, List.getElem?_cons_zero, Option.some.injEq] at ho
       subst ho
       replace hf : b4 = false := hf
       have d1 : b1 = true := hd ⟨1, .data⟩ (by simp) rfl
       have d3 : b3 = true := hd ⟨3, .data⟩ (by simp) rfl
       subst d1
       subst d3
       subst hf
       refine Go.Proofs.YtbmklpcheopgoaaReg.op_val ho2 rfl (v := .int .i64 (min ((rd_T33 pts i).f0) ((rd_T33 pts i).f0))) (w1 := W') ?_ (hK _ _ ⟨b0, true, b2, true, true, b5, b6, b7, b8, b9, b10, b11, b12, b13, rfl, rfl, (fun _ => rfl), (k1), hHB, hHW⟩)
       simp [go_sem, hu] <;> omega
      ·
       simp only [List.getElem?_toArray, List.getElem?_cons_succ, List.getElem?_cons_zero, Option.some.injEq] at ho
       subst ho
       replace hf : b5 = false := hf
       subst hf
       refine Go.Proofs.YtbmklpcheopgoaaReg.op_val ho2 rfl (v := .pointer (some ⟨(w.heap.size + 1), 1, none⟩)) (w1 := W') ?_ (hK _ _ ⟨b0, b1, b2, b3, b4, true, b6, b7, b8, b9, b10, b11, b12, b13, rfl, rfl, (k0), (k1), hHB, hHW⟩)
       simp [go_sem, hu]
      ·
       simp only [List.getElem?_toArray, List.getElem?_cons_succ, List.getElem?_cons_zero, Option.some.injEq] at ho
       subst ho
       replace hf : b6 = false := hf
       have d5 : b5 = true := hd ⟨5, .data⟩ (by simp) rfl
       subst d5
       have n13 : b13 = false := Bool.eq_false_iff.mpr (fun h => absurd (k1 h) (by rw [hf]; decide))
       subst n13
       subst hf
       refine Go.Proofs.YtbmklpcheopgoaaReg.op_val ho2 rfl (v := .int .i64 ((rd_T33 pts i).f1)) (w1 := W') ?_ (hK _ _ ⟨b0, b1, b2, b3, b4, true, true, b7, b8, b9, b10, b11, b12, false, rfl, rfl, (k0), (fun _ => rfl), hHB, hHW⟩)
       simp [go_sem, hu, (Blks.cell hHB 2 rfl 1)]
      ·
       simp only [List.getElem?_toArray, List.getElem?_cons_succ, List.getElem?_cons_zero, Option.some.injEq] at ho
       subst ho
       replace hf : b7 = false := hf
       subst hf
       refine Go.Proofs.YtbmklpcheopgoaaReg.op_val ho2 rfl (v := .pointer (some ⟨wr.heap.size, 1, none⟩)) (w1 := W') ?_ (hK _ _ ⟨b0, b1, b2, b3, b4, b5, b6, true, b8, b9, b10, b11, b12, b13, rfl, rfl, (k0), (k1), hHB, hHW⟩)
       simp [go_sem, hu]
      ·
       simp only [List.getElem?_toArray, List.getElem?_cons_succ, List.getElem?_cons_zero, Option.some.injEq] at ho
       subst ho
       replace hf : b8 = false := hf
       have d7 : b7 = true := hd ⟨7, .data⟩ (by simp) rfl
       subst d7
       subst hf
       refine Go.Proofs.YtbmklpcheopgoaaReg.op_val ho2 rfl (v := .int .i64 ((rd_T33 pts i).f1)) (w1 := W') ?_ (hK _ _ ⟨b0, b1, b2, b3, b4, b5, b6, true, true, b9, b10, b11, b12, b13, rfl, rfl, (k0), (k1), hHB, hHW⟩)
       simp [go_sem, hu, (Blks.cell hHB 0 rfl 1)]
      ·
       simp only [List.getElem?_toArray, List.getElem?_cons_succ, List.getElem?_cons_zero, Option.some.injEq] at ho
       subst ho
       replace hf : b9 = false := hf
       have d6 : b6 = true := hd ⟨6, .data⟩ (by simp) rfl
       have d8 : b8 = true := hd ⟨8, .data⟩ (by simp) rfl
       subst d6
       subst d8
       subst hf
       refine Go.Proofs.YtbmklpcheopgoaaReg.op_val ho2 rfl (v := .int .i64 (min ((rd_T33 pts i).f1) ((rd_T33 pts i).f1))) (w1 := W') ?_ (hK _ _ ⟨b0, b1, b2, b3, b4, b5, true, b7, true, true, b10, b11, b12, b13, rfl, rfl, (k0), (fun _ => rfl), hHB, hHW⟩)
       simp [go_sem, hu] <;> omega
      ·
       simp only [List.getElem?_toArray, List.getElem?_cons_succ, List.getElem?_cons_zero, Option.some.injEq] at ho
       subst ho
       replace hf : b10 = false := hf
       have d0 : b0 = true := hd ⟨0, .phase⟩ (by simp) rfl
       have d1 : b1 = true := hd ⟨1, .phase⟩ (by simp) rfl
       have d2 : b2 = true := hd ⟨2, .phase⟩ (by simp) rfl
       have d3 : b3 = true := hd ⟨3, .phase⟩ (by simp) rfl
       have d4 : b4 = true := hd ⟨4, .phase⟩ (by simp) rfl
       have d5 : b5 = true := hd ⟨5, .phase⟩ (by simp) rfl
       have d6 : b6 = true := hd ⟨6, .phase⟩ (by simp) rfl
       subst d0
       subst d1
       subst d2
       subst d3
       subst d4
       subst d5
       subst d6
       subst hf
       refine Go.Proofs.YtbmklpcheopgoaaReg.op_val ho2 rfl (v := .pointer (some ⟨(w.heap.size + 1), 0, none⟩)) (w1 := W') ?_ (hK _ _ ⟨true, true, true, true, true, true, true, b7, b8, b9, true, b11, b12, b13, rfl, rfl, (fun _ => rfl), (fun _ => rfl), hHB, hHW⟩)
       simp [go_sem, hu]
      ·
       simp only [List.getElem?_toArray, List.getElem?_cons_succ, List.getElem?_cons_zero, Option.some.injEq] at ho
       subst ho
       replace hf : b11 = false := hf
       have d0 : b0 = true := hd ⟨0, .phase⟩ (by simp) rfl
       have d1 : b1 = true := hd ⟨1, .phase⟩ (by simp) rfl
       have d2 : b2 = true := hd ⟨2, .phase⟩ (by simp) rfl
       have d3 : b3 = true := hd ⟨3, .phase⟩ (by simp) rfl
       have d4 : b4 = true := hd ⟨4, .data⟩ (by simp) rfl
       have d5 : b5 = true := hd ⟨5, .phase⟩ (by simp) rfl
       have d6 : b6 = true := hd ⟨6, .phase⟩ (by simp) rfl
       have d10 : b10 = true := hd ⟨10, .data⟩ (by simp) rfl
       subst d0
       subst d1
       subst d2
       subst d3
       subst d4
       subst d5
       subst d6
       subst d10
       subst hf
       refine Go.Proofs.YtbmklpcheopgoaaReg.op_skip ho2 rfl (w1 := W'.setCell ⟨(w.heap.size + 1), 0, none⟩ (.int .i64 (min ((rd_T33 pts i).f0) ((rd_T33 pts i).f0)))) ?_ (hK _ _ ⟨true, true, true, true, true, true, true, b7, b8, b9, true, true, b12, b13, rfl, rfl, (fun _ => rfl), (fun _ => rfl), Blks.set hHB 2 rfl 0 (.int .i64 (min ((rd_T33 pts i).f0) ((rd_T33 pts i).f0))), (Below.setCell hHW (by dsimp only; omega) (.int .i64 (min ((rd_T33 pts i).f0) ((rd_T33 pts i).f0))))⟩)
       simp [go_sem, hu, (Blks.cell hHB 2 rfl 0), (Blks.free hHB 2 rfl 0)]
      ·
       simp only [List.getElem?_toArray, List.getElem?_cons_succ, List.getElem?_cons_zero, Option.some.injEq] at ho
       subst ho
       replace hf : b12 = false := hf
       have d0 : b0 = true := hd ⟨0, .phase⟩ (by simp) rfl
       have d1 : b1 = true := hd ⟨1, .phase⟩ (by simp) rfl
       have d2 : b2 = true := hd ⟨2, .phase⟩ (by simp) rfl
       have d3 : b3 = true := hd ⟨3, .phase⟩ (by simp) rfl
       have d4 : b4 = true := hd ⟨4, .phase⟩ (by simp) rfl
       have d5 : b5 = true := hd ⟨5, .phase⟩ (by simp) rfl
       have d6 : b6 = true := hd ⟨6, .phase⟩ (by simp) rfl
       have d7 : b7 = true := hd ⟨7, .phase⟩ (by simp) rfl
       have d8 : b8 = true := hd ⟨8, .phase⟩ (by simp) rfl
       have d9 : b9 = true := hd ⟨9, .phase⟩ (by simp) rfl
       have d10 : b10 = true := hd ⟨10, .phase⟩ (by simp) rfl
       have d11 : b11 = true := hd ⟨11, .phase⟩ (by simp) rfl
       subst d0
       subst d1
       subst d2
       subst d3
       subst d4
       subst d5
       subst d6
       subst d7
       subst d8
       subst d9
       subst d10
       subst d11
       subst hf
       refine Go.Proofs.YtbmklpcheopgoaaReg.op_val ho2 rfl (v := .pointer (some ⟨(w.heap.size + 1), 1, none⟩)) (w1 := W') ?_ (hK _ _ ⟨true, true, true, true, true, true, true, true, true, true, true, true, true, b13, rfl, rfl, (fun _ => rfl), (fun _ => rfl), hHB, hHW⟩)
       simp [go_sem, hu]
      ·
       simp only [List.getElem?_toArray, List.getElem?_cons_succ, List.getElem?_cons_zero, Option.some.injEq] at ho
       subst ho
       replace hf : b13 = false := hf
       have d0 : b0 = true := hd ⟨0, .phase⟩ (by simp) rfl
       have d1 : b1 = true := hd ⟨1, .phase⟩ (by simp) rfl
       have d2 : b2 = true := hd ⟨2, .phase⟩ (by simp) rfl
       have d3 : b3 = true := hd ⟨3, .phase⟩ (by simp) rfl
       have d4 : b4 = true := hd ⟨4, .phase⟩ (by simp) rfl
       have d5 : b5 = true := hd ⟨5, .phase⟩ (by simp) rfl
       have d6 : b6 = true := hd ⟨6, .phase⟩ (by simp) rfl
       have d7 : b7 = true := hd ⟨7, .phase⟩ (by simp) rfl
       have d8 : b8 = true := hd ⟨8, .phase⟩ (by simp) rfl
       have d9 : b9 = true := hd ⟨9, .data⟩ (by simp) rfl
       have d10 : b10 = true := hd ⟨10, .phase⟩ (by simp) rfl
       have d11 : b11 = true := hd ⟨11, .chain⟩ (by simp) rfl
       have d12 : b12 = true := hd ⟨12, .data⟩ (by simp) rfl
       subst d0
       subst d1
       subst d2
       subst d3
       subst d4
       subst d5
       subst d6
       subst d7
       subst d8
       subst d9
       subst d10
       subst d11
       subst d12
       subst hf
       refine Go.Proofs.YtbmklpcheopgoaaReg.op_skip ho2 rfl (w1 := W'.setCell ⟨(w.heap.size + 1), 1, none⟩ (.int .i64 (min ((rd_T33 pts i).f1) ((rd_T33 pts i).f1)))) ?_ (hK _ _ ⟨true, true, true, true, true, true, true, true, true, true, true, true, true, true, rfl, rfl, (fun _ => rfl), (fun _ => rfl), Blks.set hHB 2 rfl 1 (.int .i64 (min ((rd_T33 pts i).f1) ((rd_T33 pts i).f1))), (Below.setCell hHW (by dsimp only; omega) (.int .i64 (min ((rd_T33 pts i).f1) ((rd_T33 pts i).f1))))⟩)
       simp [go_sem, hu, (Blks.cell hHB 2 rfl 1), (Blks.free hHB 2 rfl 1)]
     ·
      rintro lst a W' ⟨b0, b1, b2, b3, b4, b5, b6, b7, b8, b9, b10, b11, b12, b13, rfl, rfl, k0, k1, hHB, hHW⟩ hall
      have a0 : b0 = true := hall 0 (by decide)
      have a1 : b1 = true := hall 1 (by decide)
      have a2 : b2 = true := hall 2 (by decide)
      have a3 : b3 = true := hall 3 (by decide)
      have a4 : b4 = true := hall 4 (by decide)
      have a5 : b5 = true := hall 5 (by decide)
      have a6 : b6 = true := hall 6 (by decide)
      have a7 : b7 = true := hall 7 (by decide)
      have a8 : b8 = true := hall 8 (by decide)
      have a9 : b9 = true := hall 9 (by decide)
      have a10 : b10 = true := hall 10 (by decide)
      have a11 : b11 = true := hall 11 (by decide)
      have a12 : b12 = true := hall 12 (by decide)
      have a13 : b13 = true := hall 13 (by decide)
      subst a0 a1 a2 a3 a4 a5 a6 a7 a8 a9 a10 a11 a12 a13
      clear k0 k1
      clear hall
      have HB : Blks [(wr.heap.size, .cells #[.int .i64 ((rd_T33 pts i).f0), .int .i64 ((rd_T33 pts i).f1), .bool (rd_T33 pts i).f2] 33 (0, 0)), ((w.heap.size + 1 + 1), .cells #[.int .i64 ((rd_T33 pts i).f0), .int .i64 ((rd_T33 pts i).f1), .bool false] 33 (0, 0)), ((w.heap.size + 1), .cells #[.int .i64 (min ((rd_T33 pts i).f0) ((rd_T33 pts i).f0)), .int .i64 (min ((rd_T33 pts i).f1) ((rd_T33 pts i).f1)), .bool false] 33 (0, 0)), (w.heap.size, .cells #[.slice (some ad0) pts.length c0, v1] 25 (0, 0))] W' := hHB
      have HW : Below w.heap.size w W' := hHW
      clear hHB hHW
      go_wp2
      refine Go.Proofs.YtbmklpcheopgoaaReg.reg_inv (by rfl) [0, 1, 2, 3, 4, 5, 6, 7, 8, 9, 10, 11, 12, 13] (by kernel_rfl) (by kernel_rfl)
       (fun lst a W' => ∃ (b0 b1 b2 b3 b4 b5 b6 b7 b8 b9 b10 b11 b12 b13 : Bool), lst = #[b0, b1, b2, b3, b4, b5, b6, b7, b8, b9, b10, b11, b12, b13] ∧ a = ⟨#[.agg #[.slice (some ad0) pts.length c0, v1], .pointer (some ⟨w.heap.size, 0, none⟩), .pointer (some ⟨(w.heap.size + 1), 0, none⟩), .pointer (some ⟨(w.heap.size + 1 + 1), 0, none⟩), .bool false, .int .i64 i, .pointer (some ⟨wr.heap.size, 0, none⟩), .pointer (some ⟨w.heap.size, 0, none⟩), .slice (some ad0) pts.length c0, .int .i64 pts.length, .int .i64 i, .bool true, .int .i64 i, .pointer (some (ad0.add (i * 3))), .agg #[.int .i64 (rd_T33 pts i).f0, .int .i64 (rd_T33 pts i).f1, .bool (rd_T33 pts i).f2], .int .i64 i, .bool true, .pointer (some ⟨wr.heap.size, 0, none⟩), .int .i64 ((rd_T33 pts i).f0), .pointer (some ⟨wr.heap.size, 1, none⟩), .int .i64 ((rd_T33 pts i).f1), .agg #[.int .i64 ((rd_T33 pts i).f0), .int .i64 ((rd_T33 pts i).f1), .bool false], .pointer (some ⟨wr.heap.size, 0, none⟩), .int .i64 ((rd_T33 pts i).f0), .pointer (some ⟨wr.heap.size, 1, none⟩), .int .i64 ((rd_T33 pts i).f1), .agg #[.int .i64 ((rd_T33 pts i).f0), .int .i64 ((rd_T33 pts i).f1), .bool false], .pointer (some ⟨(w.heap.size + 1), 0, none⟩), .int .i64 ((rd_T33 pts i).f0), .pointer (some ⟨wr.heap.size, 0, none⟩), .int .i64 ((rd_T33 pts i).f0), .int .i64 (min ((rd_T33 pts i).f0) ((rd_T33 pts i).f0)), .pointer (some ⟨(w.heap.size + 1), 1, none⟩), .int .i64 ((rd_T33 pts i).f1), .pointer (some ⟨wr.heap.size, 1, none⟩), .int .i64 ((rd_T33 pts i).f1), .int .i64 (min ((rd_T33 pts i).f1) ((rd_T33 pts i).f1)), .pointer (some ⟨(w.heap.size + 1), 0, none⟩), .pointer (some ⟨(w.heap.size + 1), 1, none⟩), (cond b0 (.pointer (some ⟨(w.heap.size + 1 + 1), 0, none⟩)) u39), (cond b1 (.int .i64 ((rd_T33 pts i).f0)) u40), (cond b2 (.pointer (some ⟨wr.heap.size, 0, none⟩)) u41), (cond b3 (.int .i64 ((rd_T33 pts i).f0)) u42), (cond b4 (.int .i64 (max ((rd_T33 pts i).f0) ((rd_T33 pts i).f0))) u43), (cond b5 (.pointer (some ⟨(w.heap.size + 1 + 1), 1, none⟩)) u44), (cond b6 (.int .i64 ((rd_T33 pts i).f1)) u45), (cond b7 (.pointer (some ⟨wr.heap.size, 1, none⟩)) u46), (cond b8 (.int .i64 ((rd_T33 pts i).f1)) u47), (cond b9 (.int .i64 (max ((rd_T33 pts i).f1) ((rd_T33 pts i).f1))) u48), (cond b10 (.pointer (some ⟨(w.heap.size + 1 + 1), 0, none⟩)) u49), (cond b12 (.pointer (some ⟨(w.heap.size + 1 + 1), 1, none⟩)) u50), u51, undef, undef, undef, undef, undef, undef], []⟩ ∧ (b11 = true → b1 = true) ∧ (b13 = true → b6 = true) ∧ (Blks [(wr.heap.size, .cells #[.int .i64 ((rd_T33 pts i).f0), .int .i64 ((rd_T33 pts i).f1), .bool (rd_T33 pts i).f2] 33 (0, 0)), ((w.heap.size + 1 + 1), .cells #[cond b11 (.int .i64 (max ((rd_T33 pts i).f0) ((rd_T33 pts i).f0))) (.int .i64 ((rd_T33 pts i).f0)), cond b13 (.int .i64 (max ((rd_T33 pts i).f1) ((rd_T33 pts i).f1))) (.int .i64 ((rd_T33 pts i).f1)), .bool false] 33 (0, 0)), ((w.heap.size + 1), .cells #[.int .i64 (min ((rd_T33 pts i).f0) ((rd_T33 pts i).f0)), .int .i64 (min ((rd_T33 pts i).f1) ((rd_T33 pts i).f1)), .bool false] 33 (0, 0)), (w.heap.size, .cells #[.slice (some ad0) pts.length c0, v1] 25 (0, 0))] W') ∧ (Below w.heap.size w W')) ?_ ?_ ?_ ?_
      ·
       rintro lst a W' ⟨b0, b1, b2, b3, b4, b5, b6, b7, b8, b9, b10, b11, b12, b13, rfl, _⟩
       rfl
      ·
       exact ⟨false, false, false, false, false, false, false, false, false, false, false, false, false, false, rfl, rfl, (fun h => Bool.noConfusion h), (fun h => Bool.noConfusion h), HB.drew, below_drew HW⟩
      ·
       rintro lst a W' i o ⟨b0, b1, b2, b3, b4, b5, b6, b7, b8, b9, b10, b11, b12, b13, rfl, rfl, k0, k1, hHB, hHW⟩ ho hf hd K hK
       have hi : i < 14 := (Array.getElem?_eq_some_iff.1 ho).1
       have ho2 := ho
       rcases (show i = 0 ∨ i = 1 ∨ i = 2 ∨ i = 3 ∨ i = 4 ∨ i = 5 ∨ i = 6 ∨ i = 7 ∨ i = 8 ∨ i = 9 ∨ i = 10 ∨ i = 11 ∨ i = 12 ∨ i = 13 by omega) with rfl | rfl | rfl | rfl | rfl | rfl | rfl | rfl | rfl | rfl | rfl | rfl | rfl | rfl
       ·
        simp only [List.getElem?_toArray, List.getElem?_cons_succ, List.getElem?_cons_zero, Option.some.injEq] at ho
        subst ho
        replace hf : b0 = false := hf
        subst hf
        refine Go.Proofs.YtbmklpcheopgoaaReg.op_val ho2 rfl (v := .pointer (some ⟨(w.heap.size + 1 + 1), 0, none⟩)) (w1 := W') ?_ (hK _ _ ⟨true, b1, b2, b3, b4, b5, b6, b7, b8, b9, b10, b11, b12, b13, rfl, rfl, (k0), (k1), hHB, hHW⟩)
        simp [go_sem, hu]
       ·
        simp only [List.getElem?_toArray, List.getElem?_cons_succ, List.getElem?_cons_zero, Option.some.injEq] at ho
        subst ho
        replace hf : b1 = false := hf
        have d0 : b0 = true := hd ⟨0, .data⟩ (by simp) rfl
        subst d0
        have n11 : b11 = false := Bool.eq_false_iff.mpr (fun h => absurd (k0 h) (by rw [hf]; decide))
        subst n11
        subst hf
        refine Go.Proofs.YtbmklpcheopgoaaReg.op_val ho2 rfl (v := .int .i64 ((rd_T33 pts i).f0)) (w1 := W') ?_ (hK _ _ ⟨true, true, b2, b3, b4, b5, b6, b7, b8, b9, b10, false, b12, b13, rfl, rfl, (fun _ => rfl), (k1), hHB, hHW⟩)
        simp [go_sem, hu, (Blks.cell hHB 1 rfl 0)]
       ·
        simp only [List.getElem?_toArray, List.getElem?_cons_succ, List.getElem?_cons_zero, Option.some.injEq] at ho
        subst ho
        replace hf : b2 = false := hf
        subst hf
        refine Go.Proofs.YtbmklpcheopgoaaReg.op_val ho2 rfl (v := .pointer (some ⟨wr.heap.size, 0, none⟩)) (w1 := W') ?_ (hK _ _ ⟨b0, b1, true, b3, b4, b5, b6, b7, b8, b9, b10, b11, b12, b13, rfl, rfl, (k0), (k1), hHB, hHW⟩)
        simp [go_sem, hu]
       ·
        simp only [List.getElem?_toArray, List.getElem?_cons_succ, List.getElem?_cons_zero, Option.some.injEq] at ho
        subst ho
        replace hf : b3 = false := hf
        have d2 : b2 = true := hd ⟨2, .data⟩ (by simp) rfl
        subst d2
        subst hf
        refine Go.Proofs.YtbmklpcheopgoaaReg.op_val ho2 rfl (v := .int .i64 ((rd_T33 pts i).f0)) (w1 := W') ?_ (hK _ _ ⟨b0, b1, true, true, b4, b5, b6, b7, b8, b9, b10, b11, b12, b13, rfl, rfl, (k0), (k1), hHB, hHW⟩)
        simp [go_sem, hu, (Blks.cell hHB 0 rfl 0)]
       ·
        simp only [List.getElem?_toArray, List.getElem?_cons_succ, List.getElem?_cons_zero, Option.some.injEq] at ho
        subst ho
        replace hf : b4 = false := hf
        have d1 : b1 = true := hd ⟨1, .data⟩ (by simp) rfl
        have d3 : b3 = true := hd ⟨3, .data⟩ (by simp) rfl
        subst d1
        subst d3
        subst hf
        refine Go.Proofs.YtbmklpcheopgoaaReg.op_val ho2 rfl (v := .int .i64 (max ((rd_T33 pts i).f0) ((rd_T33 pts i).f0))) (w1 := W') ?_ (hK _ _ ⟨b0, true, b2, true, true, b5, b6, b7, b8, b9, b10, b11, b12, b13, rfl, rfl, (fun _ => rfl), (k1), hHB, hHW⟩)
        simp [go_sem, hu] <;> omega
       ·
        simp only [List.getElem?_toArray, List.getElem?_cons_succ, List.getElem?_cons_zero, Option.some.injEq] at ho
        subst ho
        replace hf : b5 = false := hf
        subst hf
        refine Go.Proofs.YtbmklpcheopgoaaReg.op_val ho2 rfl (v := .pointer (some ⟨(w.heap.size + 1 + 1), 1, none⟩)) (w1 := W') ?_ (hK _ _ ⟨b0, b1, b2, b3, b4, true, b6, b7, b8, b9, b10, b11, b12, b13, rfl, rfl, (k0), (k1), hHB, hHW⟩)
        simp [go_sem, hu]
       ·
        simp only [List.getElem?_toArray, List.getElem?_cons_succ, List.getElem?_cons_zero, Option.some.injEq] at ho
        subst ho
        replace hf : b6 = false := hf
        have d5 : b5 = true := hd ⟨5, .data⟩ (by simp) rfl
        subst d5
        have n13 : b13 = false := Bool.eq_false_iff.mpr (fun h => absurd (k1 h) (by rw [hf]; decide))
        subst n13
        subst hf
        refine Go.Proofs.YtbmklpcheopgoaaReg.op_val ho2 rfl (v := .int .i64 ((rd_T33 pts i).f1)) (w1 := W') ?_ (hK _ _ ⟨b0, b1, b2, b3, b4, true, true, b7, b8, b9, b10, b11, b12, false, rfl, rfl, (k0), (fun _ => rfl), hHB, hHW⟩)
        simp [go_sem, hu, (Blks.cell hHB 1 rfl 1)]
       ·
        simp only [List.getElem?_toArray, List.getElem?_cons_succ, List.getElem?_cons_zero, Option.some.injEq] at ho
        subst ho
        replace hf : b7 = false := hf
        subst hf
        refine Go.Proofs.YtbmklpcheopgoaaReg.op_val ho2 rfl (v := .pointer (some ⟨wr.heap.size, 1, none⟩)) (w1 := W') ?_ (hK _ _ ⟨b0, b1, b2, b3, b4, b5, b6, true, b8, b9, b10, b11, b12, b13, rfl, rfl, (k0), (k1), hHB, hHW⟩)
        simp [go_sem, hu]
       ·
        simp only [List.getElem?_toArray, List.getElem?_cons_succ, List.getElem?_cons_zero, Option.some.injEq] at ho
        subst ho
        replace hf : b8 = false := hf
        have d7 : b7 = true := hd ⟨7, .data⟩ (by simp) rfl
        subst d7
        subst hf
        refine Go.Proofs.YtbmklpcheopgoaaReg.op_val ho2 rfl (v := .int .i64 ((rd_T33 pts i).f1)) (w1 := W') ?_ (hK _ _ ⟨b0, b1, b2, b3, b4, b5, b6, true, true, b9, b10, b11, b12, b13, rfl, rfl, (k0), (k1), hHB, hHW⟩)
        simp [go_sem, hu, (Blks.cell hHB 0 rfl 1)]
       ·
        simp only [List.getElem?_toArray, List.getElem?_cons_succ, List.getElem?_cons_zero, Option.some.injEq] at ho
        subst ho
        replace hf : b9 = false := hf
        have d6 : b6 = true := hd ⟨6, .data⟩ (by simp) rfl
        have d8 : b8 = true := hd ⟨8, .data⟩ (by simp) rfl
        subst d6
        subst d8
        subst hf
        refine Go.Proofs.YtbmklpcheopgoaaReg.op_val ho2 rfl (v := .int .i64 (max ((rd_T33 pts i).f1) ((rd_T33 pts i).f1))) (w1 := W') ?_ (hK _ _ ⟨b0, b1, b2, b3, b4, b5, true, b7, true, true, b10, b11, b12, b13, rfl, rfl, (k0), (fun _ => rfl), hHB, hHW⟩)
        simp [go_sem, hu] <;> omega
       ·
        simp only [List.getElem?_toArray, List.getElem?_cons_succ, List.getElem?_cons_zero, Option.some.injEq] at ho
        subst ho
        replace hf : b10 = false := hf
        have d0 : b0 = true := hd ⟨0, .phase⟩ (by simp) rfl
        have d1 : b1 = true := hd ⟨1, .phase⟩ (by simp) rfl
        have d2 : b2 = true := hd ⟨2, .phase⟩ (by simp) rfl
        have d3 : b3 = true := hd ⟨3, .phase⟩ (by simp) rfl
        have d4 : b4 = true := hd ⟨4, .phase⟩ (by simp) rfl
        have d5 : b5 = true := hd ⟨5, .phase⟩ (by simp) rfl
        have d6 : b6 = true := hd ⟨6, .phase⟩ (by simp) rfl
        subst d0
        subst d1
        subst d2
        subst d3
        subst d4
        subst d5
        subst d6
        subst hf
        refine Go.Proofs.YtbmklpcheopgoaaReg.op_val ho2 rfl (v := .pointer (some ⟨(w.heap.size + 1 + 1), 0, none⟩)) (w1 := W') ?_ (hK _ _ ⟨true, true, true, true, true, true, true, b7, b8, b9, true, b11, b12, b13, rfl, rfl, (fun _ => rfl), (fun _ => rfl), hHB, hHW⟩)
        simp [go_sem, hu]
       ·
        simp only [List.getElem?_toArray, List.getElem?_cons_succ, List.getElem?_cons_zero, Option.some.injEq] at ho
        subst ho
        replace hf : b11 = false := hf
        have d0 : b0 = true := hd ⟨0, .phase⟩ (by simp) rfl
        have d1 : b1 = true := hd ⟨1, .phase⟩ (by simp) rfl
        have d2 : b2 = true := hd ⟨2, .phase⟩ (by simp) rfl
        have d3 : b3 = true := hd ⟨3, .phase⟩ (by simp) rfl
        have d4 : b4 = true := hd ⟨4, .data⟩ (by simp) rfl
        have d5 : b5 = true := hd ⟨5, .phase⟩ (by simp) rfl
        have d6 : b6 = true := hd ⟨6, .phase⟩ (by simp) rfl
        have d10 : b10 = true := hd ⟨10, .data⟩ (by simp) rfl
        subst d0
        subst d1
        subst d2
        subst d3
        subst d4
        subst d5
        subst d6
        subst d10
        subst hf
        refine Go.Proofs.YtbmklpcheopgoaaReg.op_skip ho2 rfl (w1 := W'.setCell ⟨(w.heap.size + 1 + 1), 0, none⟩ (.int .i64 (max ((rd_T33 pts i).f0) ((rd_T33 pts i).f0)))) ?_ (hK _ _ ⟨true, true, true, true, true, true, true, b7, b8, b9, true, true, b12, b13, rfl, rfl, (fun _ => rfl), (fun _ => rfl), Blks.set hHB 1 rfl 0 (.int .i64 (max ((rd_T33 pts i).f0) ((rd_T33 pts i).f0))), (Below.setCell hHW (by dsimp only; omega) (.int .i64 (max ((rd_T33 pts i).f0) ((rd_T33 pts i).f0))))⟩)
        simp [go_sem, hu, (Blks.cell hHB 1 rfl 0), (Blks.free hHB 1 rfl 0)]
       ·
        simp only [List.getElem?_toArray, List.getElem?_cons_succ, List.getElem?_cons_zero, Option.some.injEq] at ho
        subst ho
        replace hf : b12 = false := hf
        have d0 : b0 = true := hd ⟨0, .phase⟩ (by simp) rfl
        have d1 : b1 = true := hd ⟨1, .phase⟩ (by simp) rfl
        have d2 : b2 = true := hd ⟨2, .phase⟩ (by simp) rfl
        have d3 : b3 = true := hd ⟨3, .phase⟩ (by simp) rfl
        have d4 : b4 = true := hd ⟨4, .phase⟩ (by simp) rfl
        have d5 : b5 = true := hd ⟨5, .phase⟩ (by simp) rfl
        have d6 : b6 = true := hd ⟨6, .phase⟩ (by simp) rfl
        have d7 : b7 = true := hd ⟨7, .phase⟩ (by simp) rfl
        have d8 : b8 = true := hd ⟨8, .phase⟩ (by simp) rfl
        have d9 : b9 = true := hd ⟨9, .phase⟩ (by simp) rfl
        have d10 : b10 = true := hd ⟨10, .phase⟩ (by simp) rfl
        have d11 : b11 = true := hd ⟨11, .phase⟩ (by simp) rfl
        subst d0
        subst d1
        subst d2
        subst d3
        subst d4
        subst d5
        subst d6
        subst d7
        subst d8
        subst d9
        subst d10
        subst d11
        subst hf
        refine Go.Proofs.YtbmklpcheopgoaaReg.op_val ho2 rfl (v := .pointer (some ⟨(w.heap.size + 1 + 1), 1, none⟩)) (w1 := W') ?_ (hK _ _ ⟨true, true, true, true, true, true, true, true, true, true, true, true, true, b13, rfl, rfl, (fun _ => rfl), (fun _ => rfl), hHB, hHW⟩)
        simp [go_sem, hu]
       ·
        simp only [List.getElem?_toArray, List.getElem?_cons_succ, List.getElem?_cons_zero, Option.some.injEq] at ho
        subst ho
        replace hf : b13 = false := hf
        have d0 : b0 = true := hd ⟨0, .phase⟩ (by simp) rfl
        have d1 : b1 = true := hd ⟨1, .phase⟩ (by simp) rfl
        have d2 : b2 = true := hd ⟨2, .phase⟩ (by simp) rfl
        have d3 : b3 = true := hd ⟨3, .phase⟩ (by simp) rfl
        have d4 : b4 = true := hd ⟨4, .phase⟩ (by simp) rfl
        have d5 : b5 = true := hd ⟨5, .phase⟩ (by simp) rfl
        have d6 : b6 = true := hd ⟨6, .phase⟩ (by simp) rfl
        have d7 : b7 = true := hd ⟨7, .phase⟩ (by simp) rfl
        have d8 : b8 = true := hd ⟨8, .phase⟩ (by simp) rfl
        have d9 : b9 = true := hd ⟨9, .data⟩ (by simp) rfl
        have d10 : b10 = true := hd ⟨10, .phase⟩ (by simp) rfl
        have d11 : b11 = true := hd ⟨11, .chain⟩ (by simp) rfl
        have d12 : b12 = true := hd ⟨12, .data⟩ (by simp) rfl
        subst d0
        subst d1
        subst d2
        subst d3
        subst d4
        subst d5
        subst d6
        subst d7
        subst d8
        subst d9
        subst d10
        subst d11
        subst d12
        subst hf
        refine Go.Proofs.YtbmklpcheopgoaaReg.op_skip ho2 rfl (w1 := W'.setCell ⟨(w.heap.size + 1 + 1), 1, none⟩ (.int .i64 (max ((rd_T33 pts i).f1) ((rd_T33 pts i).f1)))) ?_ (hK _ _ ⟨true, true, true, true, true, true, true, true, true, true, true, true, true, true, rfl, rfl, (fun _ => rfl), (fun _ => rfl), Blks.set hHB 1 rfl 1 (.int .i64 (max ((rd_T33 pts i).f1) ((rd_T33 pts i).f1))), (Below.setCell hHW (by dsimp only; omega) (.int .i64 (max ((rd_T33 pts i).f1) ((rd_T33 pts i).f1))))⟩)
        simp [go_sem, hu, (Blks.cell hHB 1 rfl 1), (Blks.free hHB 1 rfl 1)]
      ·
       rintro lst a W' ⟨b0, b1, b2, b3, b4, b5, b6, b7, b8, b9, b10, b11, b12, b13, rfl, rfl, k0, k1, hHB, hHW⟩ hall
       have a0 : b0 = true := hall 0 (by decide)
       have a1 : b1 = true := hall 1 (by decide)
       have a2 : b2 = true := hall 2 (by decide)
       have a3 : b3 = true := hall 3 (by decide)
       have a4 : b4 = true := hall 4 (by decide)
       have a5 : b5 = true := hall 5 (by decide)
       have a6 : b6 = true := hall 6 (by decide)
       have a7 : b7 = true := hall 7 (by decide)
       have a8 : b8 = true := hall 8 (by decide)
       have a9 : b9 = true := hall 9 (by decide)
       have a10 : b10 = true := hall 10 (by decide)
       have a11 : b11 = true := hall 11 (by decide)
       have a12 : b12 = true := hall 12 (by decide)
       have a13 : b13 = true := hall 13 (by decide)
       subst a0 a1 a2 a3 a4 a5 a6 a7 a8 a9 a10 a11 a12 a13
       clear k0 k1
       clear hall
       have HB : Blks [(wr.heap.size, .cells #[.int .i64 ((rd_T33 pts i).f0), .int .i64 ((rd_T33 pts i).f1), .bool (rd_T33 pts i).f2] 33 (0, 0)), ((w.heap.size + 1 + 1), .cells #[.int .i64 (max ((rd_T33 pts i).f0) ((rd_T33 pts i).f0)), .int .i64 (max ((rd_T33 pts i).f1) ((rd_T33 pts i).f1)), .bool false] 33 (0, 0)), ((w.heap.size + 1), .cells #[.int .i64 (min ((rd_T33 pts i).f0) ((rd_T33 pts i).f0)), .int .i64 (min ((rd_T33 pts i).f1) ((rd_T33 pts i).f1)), .bool false] 33 (0, 0)), (w.heap.size, .cells #[.slice (some ad0) pts.length c0, v1] 25 (0, 0))] W' := hHB
       have HW : Below w.heap.size w W' := hHW
       clear hHB hHW
       go_wp2
       go_roundw
       case rel =>
        refine ⟨i + 1, by omega, by simp, ⟨?_, HW⟩⟩
        have hst : boxSt pts (i + 1) = (⟨min ((rd_T33 pts i).f0) ((rd_T33 pts i).f0), min ((rd_T33 pts i).f1) ((rd_T33 pts i).f1), false⟩, ⟨max ((rd_T33 pts i).f0) ((rd_T33 pts i).f0), max ((rd_T33 pts i).f1) ((rd_T33 pts i).f1), false⟩) := by rw [boxSt_succ]; rw [HZ.out]; simp [boxStep]
        rw [hst]
        exact HB.tail
       case measure => simp [intOf]; omega
   ·
    have hz' : ((i : Int) == 0) = false := by simpa using hz
    have HZ := Lib.hid hz
    clear hz
    go_wp2
    replace HB := (HB.alloc (.cells #[.int .i64 (rd_T33 pts i).f0, .int .i64 (rd_T33 pts i).f1, .bool (rd_T33 pts i).f2] 33))
    replace HW := (HW.alloc HW.size (.cells #[.int .i64 (rd_T33 pts i).f0, .int .i64 (rd_T33 pts i).f1, .bool (rd_T33 pts i).f2] 33))
    refine Go.Proofs.YtbmklpcheopgoaaReg.reg_inv (by rfl) [0, 1, 2, 3, 4, 5, 6, 7, 8, 9, 10, 11, 12, 13] (by kernel_rfl) (by kernel_rfl)
     (fun lst a W' => ∃ (b0 b1 b2 b3 b4 b5 b6 b7 b8 b9 b10 b11 b12 b13 : Bool), lst = #[b0, b1, b2, b3, b4, b5, b6, b7, b8, b9, b10, b11, b12, b13] ∧ a = ⟨#[.agg #[.slice (some ad0) pts.length c0, v1], .pointer (some ⟨w.heap.size, 0, none⟩), .pointer (some ⟨(w.heap.size + 1), 0, none⟩), .pointer (some ⟨(w.heap.size + 1 + 1), 0, none⟩), .bool false, .int .i64 i, .pointer (some ⟨wr.heap.size, 0, none⟩), .pointer (some ⟨w.heap.size, 0, none⟩), .slice (some ad0) pts.length c0, .int .i64 pts.length, .int .i64 i, .bool true, .int .i64 i, .pointer (some (ad0.add (i * 3))), .agg #[.int .i64 (rd_T33 pts i).f0, .int .i64 (rd_T33 pts i).f1, .bool (rd_T33 pts i).f2], .int .i64 i, .bool false, u17, u18, u19, u20, u21, u22, u23, u24, u25, u26, (cond b0 (.pointer (some ⟨(w.heap.size + 1), 0, none⟩)) u27), (cond b1 (.int .i64 ((boxSt pts i).1.f0)) u28), (cond b2 (.pointer (some ⟨wr.heap.size, 0, none⟩)) u29), (cond b3 (.int .i64 ((rd_T33 pts i).f0)) u30), (cond b4 (.int .i64 (min ((boxSt pts i).1.f0) ((rd_T33 pts i).f0))) u31), (cond b5 (.pointer (some ⟨(w.heap.size + 1), 1, none⟩)) u32), (cond b6 (.int .i64 ((boxSt pts i).1.f1)) u33), (cond b7 (.pointer (some ⟨wr.heap.size, 1, none⟩)) u34), (cond b8 (.int .i64 ((rd_T33 pts i).f1)) u35), (cond b9 (.int .i64 (min ((boxSt pts i).1.f1) ((rd_T33 pts i).f1))) u36), (cond b10 (.pointer (some ⟨(w.heap.size + 1), 0, none⟩)) u37), (cond b12 (.pointer (some ⟨(w.heap.size + 1), 1, none⟩)) u38), u39, u40, u41, u42, u43, u44, u45, u46, u47, u48, u49, u50, u51, undef, undef, undef, undef, undef, undef], []⟩ ∧ (b11 = true → b1 = true) ∧ (b13 = true → b6 = true) ∧ (Blks [(wr.heap.size, .cells #[.int .i64 ((rd_T33 pts i).f0), .int .i64 ((rd_T33 pts i).f1), .bool (rd_T33 pts i).f2] 33 (0, 0)), ((w.heap.size + 1 + 1), .cells #[.int .i64 ((boxSt pts i).2.f0), .int .i64 ((boxSt pts i).2.f1), .bool ((boxSt pts i).2.f2)] 33 (0, 0)), ((w.heap.size + 1), .cells #[cond b11 (.int .i64 (min ((boxSt pts i).1.f0) ((rd_T33 pts i).f0))) (.int .i64 ((boxSt pts i).1.f0)), cond b13 (.int .i64 (min ((boxSt pts i).1.f1) ((rd_T33 pts i).f1))) (.int .i64 ((boxSt pts i).1.f1)), .bool ((boxSt pts i).1.f2)] 33 (0, 0)), (w.heap.size, .cells #[.slice (some ad0) pts.length c0, v1] 25 (0, 0))] W') ∧ (Below w.heap.size w W')) ?_ ?_ ?_ ?_
    ·
     rintro lst a W' ⟨b0, b1, b2, b3, b4, b5, b6, b7, b8, b9, b10, b11, b12, b13, rfl, _⟩
     rfl
    ·
     exact ⟨false, false, false, false, false, false, false, false, false, false, false, false, false, false, rfl, rfl, (fun h => Bool.noConfusion h), (fun h => Bool.noConfusion h), HB.drew, below_drew HW⟩
    ·
     rintro lst a W' i o ⟨b0, b1, b2, b3, b4, b5, b6, b7, b8, b9, b10, b11, b12, b13, rfl, rfl, k0, k1, hHB, hHW⟩ ho hf hd K hK
     have hi : i < 14 := (Array.getElem?_eq_some_iff.1 ho).1
     have ho2 := ho
     rcases (show i = 0 ∨ i = 1 ∨ i = 2 ∨ i = 3 ∨ i = 4 ∨ i = 5 ∨ i = 6 ∨ i = 7 ∨ i = 8 ∨ i = 9 ∨ i = 10 ∨ i = 11 ∨ i = 12 ∨ i = 13 by omega) with rfl | rfl | rfl | rfl | rfl | rfl | rfl | rfl | rfl | rfl | rfl | rfl | rfl | rfl
     ·
      simp only [List.getElem?_toArray, List.getElem?_cons_succ, List.getElem?_cons_zero, Option.some.injEq] at ho
      subst ho
      replace hf : b0 = false := hf
      subst hf
      refine Go.Proofs.YtbmklpcheopgoaaReg.op_val ho2 rfl (v := .pointer (some ⟨(w.heap.size + 1), 0, none⟩)) (w1 := W') ?_ (hK _ _ ⟨true, b1, b2, b3, b4, b5, b6, b7, b8, b9, b10, b11, b12, b13, rfl, rfl, (k0), (k1), hHB, hHW⟩)
      simp [go_sem, hu]
     ·
      simp only [List.getElem?_toArray, List.getElem?_cons_succ, List.getElem?_cons_zero, Option.some.injEq] at ho
      subst ho
      replace hf : b1 = false := hf
      have d0 : b0 = true := hd ⟨0, .data⟩ (by simp) rfl
      subst d0
      have n11 : b11 = false := Bool.eq_false_iff.mpr (fun h => absurd (k0 h) (by rw [hf]; decide))
      subst n11
      subst hf
      refine Go.Proofs.YtbmklpcheopgoaaReg.op_val ho2 rfl (v := .int .i64 ((boxSt pts i).1.f0)) (w1 := W') ?_ (hK _ _ ⟨true, true, b2, b3, b4, b5, b6, b7, b8, b9, b10, false, b12, b13, rfl, rfl, (fun _ => rfl), (k1), hHB, hHW⟩)
      simp [go_sem, hu, (Blks.cell hHB 2 rfl 0)]
     ·
      simp only [List.getElem?_toArray, List.getElem?_cons_succ, List.getElem?_cons_zero, Option.some.injEq] at ho
      subst ho
      replace hf : b2 = false := hf
      subst hf
      refine Go.Proofs.YtbmklpcheopgoaaReg.op_val ho2 rfl (v := .pointer (some ⟨wr.heap.size, 0, none⟩)) (w1 := W') ?_ (hK _ _ ⟨b0, b1, true, b3, b4, b5, b6, b7, b8, b9, b10, b11, b12, b13, rfl, rfl, (k0), (k1), hHB, hHW⟩)
      simp [go_sem, hu]
     ·
      simp only [List.getElem?_toArray, List.getElem?_cons_succ, List.getElem?_cons_zero, Option.some.injEq] at ho
      subst ho
      replace hf : b3 = false := hf
      have d2 : b2 = true := hd ⟨2, .data⟩ (by simp) rfl
      subst d2
      subst hf
      refine Go.Proofs.YtbmklpcheopgoaaReg.op_val ho2 rfl (v := .int .i64 ((rd_T33 pts i).f0)) (w1 := W') ?_ (hK _ _ ⟨b0, b1, true, true, b4, b5, b6, b7, b8, b9, b10, b11, b12, b13, rfl, rfl, (k0), (k1), hHB, hHW⟩)
      simp [go_sem, hu, (Blks.cell hHB 0 rfl 0)]
     ·
      simp only [List.getElem?_toArray, List.getElem?_cons_succ, List.getElem?_cons_zero, Option.some.injEq] at ho
      subst ho
      replace hf : b4 = false := hf
      have d1 : b1 = true := hd ⟨1, .data⟩ (by simp) rfl
      have d3 : b3 = true := hd ⟨3, .data⟩ (by simp) rfl
      subst d1
      subst d3
      subst hf
      refine Go.Proofs.YtbmklpcheopgoaaReg.op_val ho2 rfl (v := .int .i64 (min ((boxSt pts i).1.f0) ((rd_T33 pts i).f0))) (w1 := W') ?_ (hK _ _ ⟨b0, true, b2, true, true, b5, b6, b7, b8, b9, b10, b11, b12, b13, rfl, rfl, (fun _ => rfl), (k1), hHB, hHW⟩)
      simp [go_sem, hu] <;> omega
     ·
      simp only [List.getElem?_toArray, List.getElem?_cons_succ, List.getElem?_cons_zero, Option.some.injEq] at ho
      subst ho
      replace hf : b5 = false := hf
      subst hf
      refine Go.Proofs.YtbmklpcheopgoaaReg.op_val ho2 rfl (v := .pointer (some ⟨(w.heap.size + 1), 1, none⟩)) (w1 := W') ?_ (hK _ _ ⟨b0, b1, b2, b3, b4, true, b6, b7, b8, b9, b10, b11, b12, b13, rfl, rfl, (k0), (k1), hHB, hHW⟩)
      simp [go_sem, hu]
     ·
      simp only [List.getElem?_toArray, List.getElem?_cons_succ, List.getElem?_cons_zero, Option.some.injEq] at ho
      subst ho
      replace hf : b6 = false := hf
      have d5 : b5 = true := hd ⟨5, .data⟩ (by simp) rfl
      subst d5
      have n13 : b13 = false := Bool.eq_false_iff.mpr (fun h => absurd (k1 h) (by rw [hf]; decide))
      subst n13
      subst hf
      refine Go.Proofs.YtbmklpcheopgoaaReg.op_val ho2 rfl (v := .int .i64 ((boxSt pts i).1.f1)) (w1 := W') ?_ (hK _ _ ⟨b0, b1, b2, b3, b4, true, true, b7, b8, b9, b10, b11, b12, false, rfl, rfl, (k0), (fun _ => rfl), hHB, hHW⟩)
      simp [go_sem, hu, (Blks.cell hHB 2 rfl 1)]
     ·
      simp only [List.getElem?_toArray, List.getElem?_cons_succ, List.getElem?_cons_zero, Option.some.injEq] at ho
      subst ho
      replace hf : b7 = false := hf
      subst hf
      refine Go.Proofs.YtbmklpcheopgoaaReg.op_val ho2 rfl (v := .pointer (some ⟨wr.heap.size, 1, none⟩)) (w1 := W') ?_ (hK _ _ ⟨b0, b1, b2, b3, b4, b5, b6, true, b8, b9, b10, b11, b12, b13, rfl, rfl, (k0), (k1), hHB, hHW⟩)
      simp [go_sem, hu]
     ·
      simp only [List.getElem?_toArray, List.getElem?_cons_succ, List.getElem?_cons_zero, Option.some.injEq] at ho
      subst ho
      replace hf : b8 = false := hf
      have d7 : b7 = true := hd ⟨7, .data⟩ (by simp) rfl
      subst d7
      subst hf
      refine Go.Proofs.YtbmklpcheopgoaaReg.op_val ho2 rfl (v := .int .i64 ((rd_T33 pts i).f1)) (w1 := W') ?_ (hK _ _ ⟨b0, b1, b2, b3, b4, b5, b6, true, true, b9, b10, b11, b12, b13, rfl, rfl, (k0), (k1), hHB, hHW⟩)
      simp [go_sem, hu, (Blks.cell hHB 0 rfl 1)]
     ·
      simp only [List.getElem?_toArray, List.getElem?_cons_succ, List.getElem?_cons_zero, Option.some.injEq] at ho
      subst ho
      replace hf : b9 = false := hf
      have d6 : b6 = true := hd ⟨6, .data⟩ (by simp) rfl
      have d8 : b8 = true := hd ⟨8, .data⟩ (by simp) rfl
      subst d6
      subst d8
      subst hf
      refine Go.Proofs.YtbmklpcheopgoaaReg.op_val ho2 rfl (v := .int .i64 (min ((boxSt pts i).1.f1) ((rd_T33 pts i).f1))) (w1 := W') ?_ (hK _ _ ⟨b0, b1, b2, b3, b4, b5, true, b7, true, true, b10, b11, b12, b13, rfl, rfl, (k0), (fun _ => rfl), hHB, hHW⟩)
      simp [go_sem, hu] <;> omega
     ·
      simp only [List.getElem?_toArray, List.getElem?_cons_succ, List.getElem?_cons_zero, Option.some.injEq] at ho
      subst ho
      replace hf : b10 = false := hf
      have d0 : b0 = true := hd ⟨0, .phase⟩ (by simp) rfl
      have d1 : b1 = true := hd ⟨1, .phase⟩ (by simp) rfl
      have d2 : b2 = true := hd ⟨2, .phase⟩ (by simp) rfl
      have d3 : b3 = true := hd ⟨3, .phase⟩ (by simp) rfl
      have d4 : b4 = true := hd ⟨4, .phase⟩ (by simp) rfl
      have d5 : b5 = true := hd ⟨5, .phase⟩ (by simp) rfl
      have d6 : b6 = true := hd ⟨6, .phase⟩ (by simp) rfl
      subst d0
      subst d1
      subst d2
      subst d3
      subst d4
      subst d5
      subst d6
      subst hf
      refine Go.Proofs.YtbmklpcheopgoaaReg.op_val ho2 rfl (v := .pointer (some ⟨(w.heap.size + 1), 0, none⟩)) (w1 := W') ?_ (hK _ _ ⟨true, true, true, true, true, true, true, b7, b8, b9, true, b11, b12, b13, rfl, rfl, (fun _ => rfl), (fun _ => rfl), hHB, hHW⟩)
      simp [go_sem, hu]
     ·
      simp only [List.getElem?_toArray, List.getElem?_cons_succ, List.getElem?_cons_zero, Option.some.injEq] at ho
      subst ho
      replace hf : b11 = false := hf
      have d0 : b0 = true := hd ⟨0, .phase⟩ (by simp) rfl
      have d1 : b1 = true := hd ⟨1, .phase⟩ (by simp) rfl
      have d2 : b2 = true := hd ⟨2, .phase⟩ (by simp) rfl
      have d3 : b3 = true := hd ⟨3, .phase⟩ (by simp) rfl
      have d4 : b4 = true := hd ⟨4, .data⟩ (by simp) rfl
      have d5 : b5 = true := hd ⟨5, .phase⟩ (by simp) rfl
      have d6 : b6 = true := hd ⟨6, .phase⟩ (by simp) rfl
      have d10 : b10 = true := hd ⟨10, .data⟩ (by simp) rfl
      subst d0
      subst d1
      subst d2
      subst d3
      subst d4
      subst d5
      subst d6
      subst d10
      subst hf
      refine Go.Proofs.YtbmklpcheopgoaaReg.op_skip ho2 rfl (w1 := W'.setCell ⟨(w.heap.size + 1), 0, none⟩ (.int .i64 (min ((boxSt pts i).1.f0) ((rd_T33 pts i).f0)))) ?_ (hK _ _ ⟨true, true, true, true, true, true, true, b7, b8, b9, true, true, b12, b13, rfl, rfl, (fun _ => rfl), (fun _ => rfl), Blks.set hHB 2 rfl 0 (.int .i64 (min ((boxSt pts i).1.f0) ((rd_T33 pts i).f0))), (Below.setCell hHW (by dsimp only; omega) (.int .i64 (min ((boxSt pts i).1.f0) ((rd_T33 pts i).f0))))⟩)
      simp [go_sem, hu, (Blks.cell hHB 2 rfl 0), (Blks.free hHB 2 rfl 0)]
     ·
      simp only [List.getElem?_toArray, List.getElem?_cons_succ, List.getElem?_cons_zero, Option.some.injEq] at ho
      subst ho
      replace hf : b12 = false := hf
      have d0 : b0 = true := hd ⟨0, .phase⟩ (by simp) rfl
      have d1 : b1 = true := hd ⟨1, .phase⟩ (by simp) rfl
      have d2 : b2 = true := hd ⟨2, .phase⟩ (by simp) rfl
      have d3 : b3 = true := hd ⟨3, .phase⟩ (by simp) rfl
      have d4 : b4 = true := hd ⟨4, .phase⟩ (by simp) rfl
      have d5 : b5 = true := hd ⟨5, .phase⟩ (by simp) rfl
      have d6 : b6 = true := hd ⟨6, .phase⟩ (by simp) rfl
      have d7 : b7 = true := hd ⟨7, .phase⟩ (by simp) rfl
      have d8 : b8 = true := hd ⟨8, .phase⟩ (by simp) rfl
      have d9 : b9 = true := hd ⟨9, .phase⟩ (by simp) rfl
      have d10 : b10 = true := hd ⟨10, .phase⟩ (by simp) rfl
      have d11 : b11 = true := hd ⟨11, .phase⟩ (by simp) rfl
      subst d0
      subst d1
      subst d2
      subst d3
      subst d4
      subst d5
      subst d6
      subst d7
      subst d8
      subst d9
      subst d10
      subst d11
      subst hf
      refine Go.Proofs.YtbmklpcheopgoaaReg.op_val ho2 rfl (v := .pointer (some ⟨(w.heap.size + 1), 1, none⟩)) (w1 := W') ?_ (hK _ _ ⟨true, true, true, true, true, true, true, true, true, true, true, true, true, b13, rfl, rfl, (fun _ => rfl), (fun _ => rfl), hHB, hHW⟩)
      simp [go_sem, hu]
     ·
      simp only [List.getElem?_toArray, List.getElem?_cons_succ, List.getElem?_cons_zero, Option.some.injEq] at ho
      subst ho
      replace hf : b13 = false := hf
      have d0 : b0 = true := hd ⟨0, .phase⟩ (by simp) rfl
      have d1 : b1 = true := hd ⟨1, .phase⟩ (by simp) rfl
      have d2 : b2 = true := hd ⟨2, .phase⟩ (by simp) rfl
      have d3 : b3 = true := hd ⟨3, .phase⟩ (by simp) rfl
      have d4 : b4 = true := hd ⟨4, .phase⟩ (by simp) rfl
      have d5 : b5 = true := hd ⟨5, .phase⟩ (by simp) rfl
      have d6 : b6 = true := hd ⟨6, .phase⟩ (by simp) rfl
      have d7 : b7 = true := hd ⟨7, .phase⟩ (by simp) rfl
      have d8 : b8 = true := hd ⟨8, .phase⟩ (by simp) rfl
      have d9 : b9 = true := hd ⟨9, .data⟩ (by simp) rfl
      have d10 : b10 = true := hd ⟨10, .phase⟩ (by simp) rfl
      have d11 : b11 = true := hd ⟨11, .chain⟩ (by simp) rfl
      have d12 : b12 = true := hd ⟨12, .data⟩ (by simp) rfl
      subst d0
      subst d1
      subst d2
      subst d3
      subst d4
      subst d5
      subst d6
      subst d7
      subst d8
      subst d9
      subst d10
      subst d11
      subst d12
      subst hf
      refine Go.Proofs.YtbmklpcheopgoaaReg.op_skip ho2 rfl (w1 := W'.setCell ⟨(w.heap.size + 1), 1, none⟩ (.int .i64 (min ((boxSt pts i).1.f1) ((rd_T33 pts i).f1)))) ?_ (hK _ _ ⟨true, true, true, true, true, true, true, true, true, true, true, true, true, true, rfl, rfl, (fun _ => rfl), (fun _ => rfl), Blks.set hHB 2 rfl 1 (.int .i64 (min ((boxSt pts i).1.f1) ((rd_T33 pts i).f1))), (Below.setCell hHW (by dsimp only; omega) (.int .i64 (min ((boxSt pts i).1.f1) ((rd_T33 pts i).f1))))⟩)
      simp [go_sem, hu, (Blks.cell hHB 2 rfl 1), (Blks.free hHB 2 rfl 1)]
    ·
     rintro lst a W' ⟨b0, b1, b2, b3, b4, b5, b6, b7, b8, b9, b10, b11, b12, b13, rfl, rfl, k0, k1, hHB, hHW⟩ hall
     have a0 : b0 = true := hall 0 (by decide)
     have a1 : b1 = true := hall 1 (by decide)
     have a2 : b2 = true := hall 2 (by decide)
     have a3 : b3 = true := hall 3 (by decide)
     have a4 : b4 = true := hall 4 (by decide)
     have a5 : b5 = true := hall 5 (by decide)
     have a6 : b6 = true := hall 6 (by decide)
     have a7 : b7 = true := hall 7 (by decide)
     have a8 : b8 = true := hall 8 (by decide)
     have a9 : b9 = true := hall 9 (by decide)
     have a10 : b10 = true := hall 10 (by decide)
     have a11 : b11 = true := hall 11 (by decide)
     have a12 : b12 = true := hall 12 (by decide)
     have a13 : b13 = true := hall 13 (by decide)
     subst a0 a1 a2 a3 a4 a5 a6 a7 a8 a9 a10 a11 a12 a13
     clear k0 k1
     clear hall
     have HB : Blks [(wr.heap.size, .cells #[.int .i64 ((rd_T33 pts i).f0), .int .i64 ((rd_T33 pts i).f1), .bool (rd_T33 pts i).f2] 33 (0, 0)), ((w.heap.size + 1 + 1), .cells #[.int .i64 ((boxSt pts i).2.f0), .int .i64 ((boxSt pts i).2.f1), .bool ((boxSt pts i).2.f2)] 33 (0, 0)), ((w.heap.size + 1), .cells #[.int .i64 (min ((boxSt pts i).1.f0) ((rd_T33 pts i).f0)), .int .i64 (min ((boxSt pts i).1.f1) ((rd_T33 pts i).f1)), .bool ((boxSt pts i).1.f2)] 33 (0, 0)), (w.heap.size, .cells #[.slice (some ad0) pts.length c0, v1] 25 (0, 0))] W' := hHB
     have HW : Below w.heap.size w W' := hHW
     clear hHB hHW
     go_wp2
     refine Go.Proofs.YtbmklpcheopgoaaReg.reg_inv (by rfl) [0, 1, 2, 3, 4, 5, 6, 7, 8, 9, 10, 11, 12, 13] (by kernel_rfl) (by kernel_rfl)
      (fun lst a W' => ∃ (b0 b1 b2 b3 b4 b5 b6 b7 b8 b9 b10 b11 b12 b13 : Bool), lst = #[b0, b1, b2, b3, b4, b5, b6, b7, b8, b9, b10, b11, b12, b13] ∧ a = ⟨#[.agg #[.slice (some ad0) pts.length c0, v1], .pointer (some ⟨w.heap.size, 0, none⟩), .pointer (some ⟨(w.heap.size + 1), 0, none⟩), .pointer (some ⟨(w.heap.size + 1 + 1), 0, none⟩), .bool false, .int .i64 i, .pointer (some ⟨wr.heap.size, 0, none⟩), .pointer (some ⟨w.heap.size, 0, none⟩), .slice (some ad0) pts.length c0, .int .i64 pts.length, .int .i64 i, .bool true, .int .i64 i, .pointer (some (ad0.add (i * 3))), .agg #[.int .i64 (rd_T33 pts i).f0, .int .i64 (rd_T33 pts i).f1, .bool (rd_T33 pts i).f2], .int .i64 i, .bool false, u17, u18, u19, u20, u21, u22, u23, u24, u25, u26, .pointer (some ⟨(w.heap.size + 1), 0, none⟩), .int .i64 ((boxSt pts i).1.f0), .pointer (some ⟨wr.heap.size, 0, none⟩), .int .i64 ((rd_T33 pts i).f0), .int .i64 (min ((boxSt pts i).1.f0) ((rd_T33 pts i).f0)), .pointer (some ⟨(w.heap.size + 1), 1, none⟩), .int .i64 ((boxSt pts i).1.f1), .pointer (some ⟨wr.heap.size, 1, none⟩), .int .i64 ((rd_T33 pts i).f1), .int .i64 (min ((boxSt pts i).1.f1) ((rd_T33 pts i).f1)), .pointer (some ⟨(w.heap.size + 1), 0, none⟩), .pointer (some ⟨(w.heap.size + 1), 1, none⟩), (cond b0 (.pointer (some ⟨(w.heap.size + 1 + 1), 0, none⟩)) u39), (cond b1 (.int .i64 ((boxSt pts i).2.f0)) u40), (cond b2 (.pointer (some ⟨wr.heap.size, 0, none⟩)) u41), (cond b3 (.int .i64 ((rd_T33 pts i).f0)) u42), (cond b4 (.int .i64 (max ((boxSt pts i).2.f0) ((rd_T33 pts i).f0))) u43), (cond b5 (.pointer (some ⟨(w.heap.size + 1 + 1), 1, none⟩)) u44), (cond b6 (.int .i64 ((boxSt pts i).2.f1)) u45), (cond b7 (.pointer (some ⟨wr.heap.size, 1, none⟩)) u46), (cond b8 (.int .i64 ((rd_T33 pts i).f1)) u47), (cond b9 (.int .i64 (max ((boxSt pts i).2.f1) ((rd_T33 pts i).f1))) u48), (cond b10 (.pointer (some ⟨(w.heap.size + 1 + 1), 0, none⟩)) u49), (cond b12 (.pointer (some ⟨(w.heap.size + 1 + 1), 1, none⟩)) u50), u51, undef, undef, undef, undef, undef, undef], []⟩ ∧ (b11 = true → b1 = true) ∧ (b13 = true → b6 = true) ∧ (Blks [(wr.heap.size, .cells #[.int .i64 ((rd_T33 pts i).f0), .int .i64 ((rd_T33 pts i).f1), .bool (rd_T33 pts i).f2] 33 (0, 0)), ((w.heap.size + 1 + 1), .cells #[cond b11 (.int .i64 (max ((boxSt pts i).2.f0) ((rd_T33 pts i).f0))) (.int .i64 ((boxSt pts i).2.f0)), cond b13 (.int .i64 (max ((boxSt pts i).2.f1) ((rd_T33 pts i).f1))) (.int .i64 ((boxSt pts i).2.f1)), .bool ((boxSt pts i).2.f2)] 33 (0, 0)), ((w.heap.size + 1), .cells #[.int .i64 (min ((boxSt pts i).1.f0) ((rd_T33 pts i).f0)), .int .i64 (min ((boxSt pts i).1.f1) ((rd_T33 pts i).f1)), .bool ((boxSt pts i).1.f2)] 33 (0, 0)), (w.heap.size, .cells #[.slice (some ad0) pts.length c0, v1] 25 (0, 0))] W') ∧ (Below w.heap.size w W')) ?_ ?_ ?_ ?_
     ·
      rintro lst a W' ⟨b0, b1, b2, b3, b4, b5, b6, b7, b8, b9, b10, b11, b12, b13, rfl, _⟩
      rfl
     ·
      exact ⟨false, false, false, false, false, false, false, false, false, false, false, false, false, false, rfl, rfl, (fun h => Bool.noConfusion h), (fun h => Bool.noConfusion h), HB.drew, below_drew HW⟩
     ·
      rintro lst a W' i o ⟨b0, b1, b2, b3, b4, b5, b6, b7, b8, b9, b10, b11, b12, b13, rfl, rfl, k0, k1, hHB, hHW⟩ ho hf hd K hK
      have hi : i < 14 := (Array.getElem?_eq_some_iff.1 ho).1
      have ho2 := ho
      rcases (show i = 0 ∨ i = 1 ∨ i = 2 ∨ i = 3 ∨ i = 4 ∨ i = 5 ∨ i = 6 ∨ i = 7 ∨ i = 8 ∨ i = 9 ∨ i = 10 ∨ i = 11 ∨ i = 12 ∨ i = 13 by omega) with rfl | rfl | rfl | rfl | rfl | rfl | rfl | rfl | rfl | rfl | rfl | rfl | rfl | rfl
      ·
       simp only [List.getElem?_toArray, List.getElem?_cons_succ, List.getElem?_cons_zero, Option.some.injEq] at ho
       subst ho
       replace hf : b0 = false := hf
       subst hf
       refine Go.Proofs.YtbmklpcheopgoaaReg.op_val ho2 rfl (v := .pointer (some ⟨(w.heap.size + 1 + 1), 0, none⟩)) (w1 := W') ?_ (hK _ _ ⟨true, b1, b2, b3, b4, b5, b6, b7, b8, b9, b10, b11, b12, b13, rfl, rfl, (k0), (k1), hHB, hHW⟩)
       simp [go_sem, hu]
      ·
       simp only [List.getElem?_toArray, List.getElem?_cons_succ, List.getElem?_cons_zero, Option.some.injEq] at ho
       subst ho
       replace hf : b1 = false := hf
       have d0 : b0 = true := hd ⟨0, .data⟩ (by simp) rfl
       subst d0
       have n11 : b11 = false := Bool.eq_false_iff.mpr (fun h => absurd (k0 h) (by rw [hf]; decide))
       subst n11
       subst hf
       refine Go.Proofs.YtbmklpcheopgoaaReg.op_val ho2 rfl (v := .int .i64 ((boxSt pts i).2.f0)) (w1 := W') ?_ (hK _ _ ⟨true, true, b2, b3, b4, b5, b6, b7, b8, b9, b10, false, b12, b13, rfl, rfl, (fun _ => rfl), (k1), hHB, hHW⟩)
       simp [go_sem, hu, (Blks.cell hHB 1 rfl 0)]
      ·
       simp only [List.getElem?_toArray, List.getElem?_cons_succ, List.getElem?_cons_zero, Option.some.injEq] at ho
       subst ho
       replace hf : b2 = false := hf
       subst hf
       refine Go.Proofs.YtbmklpcheopgoaaReg.op_val ho2 rfl (v := .pointer (some ⟨wr.heap.size, 0, none⟩)) (w1 := W') ?_ (hK _ _ ⟨b0, b1, true, b3, b4, b5, b6, b7, b8, b9, b10, b11, b12, b13, rfl, rfl, (k0), (k1), hHB, hHW⟩)
       simp [go_sem, hu]
      ·
       simp only [List.getElem?_toArray, List.getElem?_cons_succ, List.getElem?_cons_zero, Option.some.injEq] at ho
       subst ho
       replace hf : b3 = false := hf
       have d2 : b2 = true := hd ⟨2, .data⟩ (by simp) rfl
       subst d2
       subst hf
       refine Go.Proofs.YtbmklpcheopgoaaReg.op_val ho2 rfl (v := .int .i64 ((rd_T33 pts i).f0)) (w1 := W') ?_ (hK _ _ ⟨b0, b1, true, true, b4, b5, b6, b7, b8, b9, b10, b11, b12, b13, rfl, rfl, (k0), (k1), hHB, hHW⟩)
       simp [go_sem, hu, (Blks.cell hHB 0 rfl 0)]
      ·
       simp only [List.getElem?_toArray, List.getElem?_cons_succ, List.getElem?_cons_zero, Option.some.injEq] at ho
       subst ho
       replace hf : b4 = false := hf
       have d1 : b1 = true := hd ⟨1, .data⟩ (by simp) rfl
       have d3 : b3 = true := hd ⟨3, .data⟩ (by simp) rfl
       subst d1
       subst d3
       subst hf
       refine Go.Proofs.YtbmklpcheopgoaaReg.op_val ho2 rfl (v := .int .i64 (max ((boxSt pts i).2.f0) ((rd_T33 pts i).f0))) (w1 := W') ?_ (hK _ _ ⟨b0, true, b2, true, true, b5, b6, b7, b8, b9, b10, b11, b12, b13, rfl, rfl, (fun _ => rfl), (k1), hHB, hHW⟩)
       simp [go_sem, hu] <;> omega
      ·
       simp only [List.getElem?_toArray, List.getElem?_cons_succ, List.getElem?_cons_zero, Option.some.injEq] at ho
       subst ho
       replace hf : b5 = false := hf
       subst hf
       refine Go.Proofs.YtbmklpcheopgoaaReg.op_val ho2 rfl (v := .pointer (some ⟨(w.heap.size + 1 + 1), 1, none⟩)) (w1 := W') ?_ (hK _ _ ⟨b0, b1, b2, b3, b4, true, b6, b7, b8, b9, b10, b11, b12, b13, rfl, rfl, (k0), (k1), hHB, hHW⟩)
       simp [go_sem, hu]
      ·
       simp only [List.getElem?_toArray, List.getElem?_cons_succ, List.getElem?_cons_zero, Option.some.injEq] at ho
       subst ho
       replace hf : b6 = false := hf
       have d5 : b5 = true := hd ⟨5, .data⟩ (by simp) rfl
       subst d5
       have n13 : b13 = false := Bool.eq_false_iff.mpr (fun h => absurd (k1 h) (by rw [hf]; decide))
       subst n13
       subst hf
       refine Go.Proofs.YtbmklpcheopgoaaReg.op_val ho2 rfl (v := .int .i64 ((boxSt pts i).2.f1)) (w1 := W') ?_ (hK _ _ ⟨b0, b1, b2, b3, b4, true, true, b7, b8, b9, b10, b11, b12, false, rfl, rfl, (k0), (fun _ => rfl), hHB, hHW⟩)
       simp [go_sem, hu, (Blks.cell hHB 1 rfl 1)]
      ·
       simp only [List.getElem?_toArray, List.getElem?_cons_succ, List.getElem?_cons_zero, Option.some.injEq] at ho
       subst ho
       replace hf : b7 = false := hf
       subst hf
       refine Go.Proofs.YtbmklpcheopgoaaReg.op_val ho2 rfl (v := .pointer (some ⟨wr.heap.size, 1, none⟩)) (w1 := W') ?_ (hK _ _ ⟨b0, b1, b2, b3, b4, b5, b6, true, b8, b9, b10, b11, b12, b13, rfl, rfl, (k0), (k1), hHB, hHW⟩)
       simp [go_sem, hu]
      ·
       simp only [List.getElem?_toArray, List.getElem?_cons_succ, List.getElem?_cons_zero, Option.some.injEq] at ho
       subst ho
       replace hf : b8 = false := hf
       have d7 : b7 = true := hd ⟨7, .data⟩ (by simp) rfl
       subst d7
       subst hf
       refine Go.Proofs.YtbmklpcheopgoaaReg.op_val ho2 rfl (v := .int .i64 ((rd_T33 pts i).f1)) (w1 := W') ?_ (hK _ _ ⟨b0, b1, b2, b3, b4, b5, b6, true, true, b9, b10, b11, b12, b13, rfl, rfl, (k0), (k1), hHB, hHW⟩)
       simp [go_sem, hu, (Blks.cell hHB 0 rfl 1)]
      ·
       simp only [List.getElem?_toArray, List.getElem?_cons_succ, List.getElem?_cons_zero, Option.some.injEq] at ho
       subst ho
       replace hf : b9 = false := hf
       have d6 : b6 = true := hd ⟨6, .data⟩ (by simp) rfl
       have d8 : b8 = true := hd ⟨8, .data⟩ (by simp) rfl
       subst d6
       subst d8
       subst hf
       refine Go.Proofs.YtbmklpcheopgoaaReg.op_val ho2 rfl (v := .int .i64 (max ((boxSt pts i).2.f1) ((rd_T33 pts i).f1))) (w1 := W') ?_ (hK _ _ ⟨b0, b1, b2, b3, b4, b5, true, b7, true, true, b10, b11, b12, b13, rfl, rfl, (k0), (fun _ => rfl), hHB, hHW⟩)
       simp [go_sem, hu] <;> omega
      ·
       simp only [List.getElem?_toArray, List.getElem?_cons_succ, List.getElem?_cons_zero, Option.some.injEq] at ho
       subst ho
       replace hf : b10 = false := hf
       have d0 : b0 = true := hd ⟨0, .phase⟩ (by simp) rfl
       have d1 : b1 = true := hd ⟨1, .phase⟩ (by simp) rfl
       have d2 : b2 = true := hd ⟨2, .phase⟩ (by simp) rfl
       have d3 : b3 = true := hd ⟨3, .phase⟩ (by simp) rfl
       have d4 : b4 = true := hd ⟨4, .phase⟩ (by simp) rfl
       have d5 : b5 = true := hd ⟨5, .phase⟩ (by simp) rfl
       have d6 : b6 = true := hd ⟨6, .phase⟩ (by simp) rfl
       subst d0
       subst d1
       subst d2
       subst d3
       subst d4
       subst d5
       subst d6
       subst hf
       refine Go.Proofs.YtbmklpcheopgoaaReg.op_val ho2 rfl (v := .pointer (some ⟨(w.heap.size + 1 + 1), 0, none⟩)) (w1 := W') ?_ (hK _ _ ⟨true, true, true, true, true, true, true, b7, b8, b9, true, b11, b12, b13, rfl, rfl, (fun _ => rfl), (fun _ => rfl), hHB, hHW⟩)
       simp [go_sem, hu]
      ·
       simp only [List.getElem?_toArray, List.getElem?_cons_succ, List.getElem?_cons_zero, Option.some.injEq] at ho
       subst ho
       replace hf : b11 = false := hf
       have d0 : b0 = true := hd ⟨0, .phase⟩ (by simp) rfl
       have d1 : b1 = true := hd ⟨1, .phase⟩ (by simp) rfl
       have d2 : b2 = true := hd ⟨2, .phase⟩ (by simp) rfl
       have d3 : b3 = true := hd ⟨3, .phase⟩ (by simp) rfl
       have d4 : b4 = true := hd ⟨4, .data⟩ (by simp) rfl
       have d5 : b5 = true := hd ⟨5, .phase⟩ (by simp) rfl
       have d6 : b6 = true := hd ⟨6, .phase⟩ (by simp) rfl
       have d10 : b10 = true := hd ⟨10, .data⟩ (by simp) rfl
       subst d0
       subst d1
       subst d2
       subst d3
       subst d4
       subst d5
       subst d6
       subst d10
       subst hf
       refine Go.Proofs.YtbmklpcheopgoaaReg.op_skip ho2 rfl (w1 := W'.setCell ⟨(w.heap.size + 1 + 1), 0, none⟩ (.int .i64 (max ((boxSt pts i).2.f0) ((rd_T33 pts i).f0)))) ?_ (hK _ _ ⟨true, true, true, true, true, true, true, b7, b8, b9, true, true, b12, b13, rfl, rfl, (fun _ => rfl), (fun _ => rfl), Blks.set hHB 1 rfl 0 (.int .i64 (max ((boxSt pts i).2.f0) ((rd_T33 pts i).f0))), (Below.setCell hHW (by dsimp only; omega) (.int .i64 (max ((boxSt pts i).2.f0) ((rd_T33 pts i).f0))))⟩)
       simp [go_sem, hu, (Blks.cell hHB 1 rfl 0), (Blks.free hHB 1 rfl 0)]
      ·
       simp only [List.getElem?_toArray, List.getElem?_cons_succ, List.getElem?_cons_zero, Option.some.injEq] at ho
       subst ho
       replace hf : b12 = false := hf
       have d0 : b0 = true := hd ⟨0, .phase⟩ (by simp) rfl
       have d1 : b1 = true := hd ⟨1, .phase⟩ (by simp) rfl
       have d2 : b2 = true := hd ⟨2, .phase⟩ (by simp) rfl
       have d3 : b3 = true := hd ⟨3, .phase⟩ (by simp) rfl
       have d4 : b4 = true := hd ⟨4, .phase⟩ (by simp) rfl
       have d5 : b5 = true := hd ⟨5, .phase⟩ (by simp) rfl
       have d6 : b6 = true := hd ⟨6, .phase⟩ (by simp) rfl
       have d7 : b7 = true := hd ⟨7, .phase⟩ (by simp) rfl
       have d8 : b8 = true := hd ⟨8, .phase⟩ (by simp) rfl
       have d9 : b9 = true := hd ⟨9, .phase⟩ (by simp) rfl
       have d10 : b10 = true := hd ⟨10, .phase⟩ (by simp) rfl
       have d11 : b11 = true := hd ⟨11, .phase⟩ (by simp) rfl
       subst d0
       subst d1
       subst d2
       subst d3
       subst d4
       subst d5
       subst d6
       subst d7
       subst d8
       subst d9
       subst d10
       subst d11
       subst hf
       refine Go.Proofs.YtbmklpcheopgoaaReg.op_val ho2 rfl (v := .pointer (some ⟨(w.heap.size + 1 + 1), 1, none⟩)) (w1 := W') ?_ (hK _ _ ⟨true, true, true, true, true, true, true, true, true, true, true, true, true, b13, rfl, rfl, (fun _ => rfl), (fun _ => rfl), hHB, hHW⟩)
       simp [go_sem, hu]
      ·
       simp only [List.getElem?_toArray, List.getElem?_cons_succ, List.getElem?_cons_zero, Option.some.injEq] at ho
       subst ho
       replace hf : b13 = false := hf
       have d0 : b0 = true := hd ⟨0, .phase⟩ (by simp) rfl
       have d1 : b1 = true := hd ⟨1, .phase⟩ (by simp) rfl
       have d2 : b2 = true := hd ⟨2, .phase⟩ (by simp) rfl
       have d3 : b3 = true := hd ⟨3, .phase⟩ (by simp) rfl
       have d4 : b4 = true := hd ⟨4, .phase⟩ (by simp) rfl
       have d5 : b5 = true := hd ⟨5, .phase⟩ (by simp) rfl
       have d6 : b6 = true := hd ⟨6, .phase⟩ (by simp) rfl
       have d7 : b7 = true := hd ⟨7, .phase⟩ (by simp) rfl
       have d8 : b8 = true := hd ⟨8, .phase⟩ (by simp) rfl
       have d9 : b9 = true := hd ⟨9, .data⟩ (by simp) rfl
       have d10 : b10 = true := hd ⟨10, .phase⟩ (by simp) rfl
       have d11 : b11 = true := hd ⟨11, .chain⟩ (by simp) rfl
       have d12 : b12 = true := hd ⟨12, .data⟩ (by simp) rfl
       subst d0
       subst d1
       subst d2
       subst d3
       subst d4
       subst d5
       subst d6
       subst d7
       subst d8
       subst d9
       subst d10
       subst d11
       subst d12
       subst hf
       refine Go.Proofs.YtbmklpcheopgoaaReg.op_skip ho2 rfl (w1 := W'.setCell ⟨(w.heap.size + 1 + 1), 1, none⟩ (.int .i64 (max ((boxSt pts i).2.f1) ((rd_T33 pts i).f1)))) ?_ (hK _ _ ⟨true, true, true, true, true, true, true, true, true, true, true, true, true, true, rfl, rfl, (fun _ => rfl), (fun _ => rfl), Blks.set hHB 1 rfl 1 (.int .i64 (max ((boxSt pts i).2.f1) ((rd_T33 pts i).f1))), (Below.setCell hHW (by dsimp only; omega) (.int .i64 (max ((boxSt pts i).2.f1) ((rd_T33 pts i).f1))))⟩)
       simp [go_sem, hu, (Blks.cell hHB 1 rfl 1), (Blks.free hHB 1 rfl 1)]
     ·
      rintro lst a W' ⟨b0, b1, b2, b3, b4, b5, b6, b7, b8, b9, b10, b11, b12, b13, rfl, rfl, k0, k1, hHB, hHW⟩ hall
      have a0 : b0 = true := hall 0 (by decide)
      have a1 : b1 = true := hall 1 (by decide)
      have a2 : b2 = true := hall 2 (by decide)
      have a3 : b3 = true := hall 3 (by decide)
      have a4 : b4 = true := hall 4 (by decide)
      have a5 : b5 = true := hall 5 (by decide)
      have a6 : b6 = true := hall 6 (by decide)
      have a7 : b7 = true := hall 7 (by decide)
      have a8 : b8 = true := hall 8 (by decide)
      have a9 : b9 = true := hall 9 (by decide)
      have a10 : b10 = true := hall 10 (by decide)
      have a11 : b11 = true := hall 11 (by decide)
      have a12 : b12 = true := hall 12 (by decide)
      have a13 : b13 = true := hall 13 (by decide)
      subst a0 a1 a2 a3 a4 a5 a6 a7 a8 a9 a10 a11 a12 a13
      clear k0 k1
      clear hall
      have HB : Blks [(wr.heap.size, .cells #[.int .i64 ((rd_T33 pts i).f0), .int .i64 ((rd_T33 pts i).f1), .bool (rd_T33 pts i).f2] 33 (0, 0)), ((w.heap.size + 1 + 1), .cells #[.int .i64 (max ((boxSt pts i).2.f0) ((rd_T33 pts i).f0)), .int .i64 (max ((boxSt pts i).2.f1) ((rd_T33 pts i).f1)), .bool ((boxSt pts i).2.f2)] 33 (0, 0)), ((w.heap.size + 1), .cells #[.int .i64 (min ((boxSt pts i).1.f0) ((rd_T33 pts i).f0)), .int .i64 (min ((boxSt pts i).1.f1) ((rd_T33 pts i).f1)), .bool ((boxSt pts i).1.f2)] 33 (0, 0)), (w.heap.size, .cells #[.slice (some ad0) pts.length c0, v1] 25 (0, 0))] W' := hHB
      have HW : Below w.heap.size w W' := hHW
      clear hHB hHW
      go_wp2
      go_roundw
      case rel =>
       refine ⟨i + 1, by omega, by simp, ⟨?_, HW⟩⟩
       have hst : boxSt pts (i + 1) = (⟨min ((boxSt pts i).1.f0) ((rd_T33 pts i).f0), min ((boxSt pts i).1.f1) ((rd_T33 pts i).f1), (boxSt pts i).1.f2⟩, ⟨max ((boxSt pts i).2.f0) ((rd_T33 pts i).f0), max ((boxSt pts i).2.f1) ((rd_T33 pts i).f1), (boxSt pts i).2.f2⟩) := by rw [boxSt_succ]; unfold boxStep; rw [if_neg HZ.out]
       rw [hst]
       exact HB.tail
      case measure => simp [intOf]; omega
  ·
   obtain rfl : i = pts.length := by omega
   have g := HB.cells
   simp only [factsF, cellsF, boxPt] at g
   go_wp2
   refine Go.Proofs.YtbmklpcheopgoaaReg.reg_inv (by rfl) [0, 1, 2, 3, 4, 5, 6, 7, 8] (by kernel_rfl) (by kernel_rfl)
    (fun lst a W' => ∃ (b0 b1 b2 b3 b4 b5 b6 b7 b8 : Bool), lst = #[b0, b1, b2, b3, b4, b5, b6, b7, b8] ∧ a = ⟨#[.agg #[.slice A0 pts.length c0, v1], .pointer (some ⟨w.heap.size, 0, none⟩), .pointer (some ⟨(w.heap.size + 1), 0, none⟩), .pointer (some ⟨(w.heap.size + 1 + 1), 0, none⟩), (cond b8 (.bool (decide (0 < pts.length))) (.bool false)), u5, u6, .pointer (some ⟨w.heap.size, 0, none⟩), .slice A0 pts.length c0, .int .i64 pts.length, .int .i64 pts.length, .bool false, u12, u13, u14, u15, u16, u17, u18, u19, u20, u21, u22, u23, u24, u25, u26, u27, u28, u29, u30, u31, u32, u33, u34, u35, u36, u37, u38, u39, u40, u41, u42, u43, u44, u45, u46, u47, u48, u49, u50, u51, (cond b0 (.agg #[.int .i64 (boxSt pts pts.length).1.f0, .int .i64 (boxSt pts pts.length).1.f1, .bool (boxSt pts pts.length).1.f2]) undef), (cond b1 (.agg #[.int .i64 (boxSt pts pts.length).2.f0, .int .i64 (boxSt pts pts.length).2.f1, .bool (boxSt pts pts.length).2.f2]) undef), (cond b2 (.pointer (some ⟨w.heap.size, 0, none⟩)) undef), (cond b3 (.slice A0 pts.length c0) undef), (cond b4 (.int .i64 pts.length) undef), (cond b5 (.bool (decide (0 < pts.length))) undef)], []⟩ ∧ (Blks [((w.heap.size + 1 + 1), .cells #[.int .i64 (boxSt pts pts.length).2.f0, .int .i64 (boxSt pts pts.length).2.f1, .bool (boxSt pts pts.length).2.f2] 33 (0, 0)), ((w.heap.size + 1), .cells #[.int .i64 (boxSt pts pts.length).1.f0, .int .i64 (boxSt pts pts.length).1.f1, .bool (boxSt pts pts.length).1.f2] 33 (0, 0)), (w.heap.size, .cells #[.slice A0 pts.length c0, v1] 25 (0, 0))] W') ∧ (Below w.heap.size w W')) ?_ ?_ ?_ ?_
   ·
    rintro lst a W' ⟨b0, b1, b2, b3, b4, b5, b6, b7, b8, rfl, _⟩
    rfl
   ·
    exact ⟨false, false, false, false, false, false, false, false, false, rfl, rfl, HB.drew, below_drew HW⟩
   ·
    rintro lst a W' i o ⟨b0, b1, b2, b3, b4, b5, b6, b7, b8, rfl, rfl, hHB, hHW⟩ ho hf hd K hK
    have hi : i < 9 := (Array.getElem?_eq_some_iff.1 ho).1
    have ho2 := ho
    rcases (show i = 0 ∨ i = 1 ∨ i = 2 ∨ i = 3 ∨ i = 4 ∨ i = 5 ∨ i = 6 ∨ i = 7 ∨ i = 8 by omega) with rfl | rfl | rfl | rfl | rfl | rfl | rfl | rfl | rfl
    ·
     simp only [List.getElem?_toArray, List.getElem?_cons_succ, List.getElem?_cons_zero, Option.some.injEq] at ho
     subst ho
     replace hf : b0 = false := hf
     subst hf
     refine Go.Proofs.YtbmklpcheopgoaaReg.op_val ho2 rfl (v := .agg #[.int .i64 (boxSt pts pts.length).1.f0, .int .i64 (boxSt pts pts.length).1.f1, .bool (boxSt pts pts.length).1.f2]) (w1 := W') ?_ (hK _ _ ⟨true, b1, b2, b3, b4, b5, b6, b7, b8, rfl, rfl, hHB, hHW⟩)
     simp [go_sem, hu, (Blks.cell hHB 1 rfl 0), (Blks.cell hHB 1 rfl 1), (Blks.cell hHB 1 rfl 2)]
    ·
     simp only [List.getElem?_toArray, List.getElem?_cons_succ, List.getElem?_cons_zero, Option.some.injEq] at ho
     subst ho
     replace hf : b1 = false := hf
     subst hf
     refine Go.Proofs.YtbmklpcheopgoaaReg.op_val ho2 rfl (v := .agg #[.int .i64 (boxSt pts pts.length).2.f0, .int .i64 (boxSt pts pts.length).2.f1, .bool (boxSt pts pts.length).2.f2]) (w1 := W') ?_ (hK _ _ ⟨b0, true, b2, b3, b4, b5, b6, b7, b8, rfl, rfl, hHB, hHW⟩)
     simp [go_sem, hu, (Blks.cell hHB 0 rfl 0), (Blks.cell hHB 0 rfl 1), (Blks.cell hHB 0 rfl 2)]
    ·
     simp only [List.getElem?_toArray, List.getElem?_cons_succ, List.getElem?_cons_zero, Option.some.injEq] at ho
     subst ho
     replace hf : b2 = false := hf
     subst hf
     refine Go.Proofs.YtbmklpcheopgoaaReg.op_val ho2 rfl (v := .pointer (some ⟨w.heap.size, 0, none⟩)) (w1 := W') ?_ (hK _ _ ⟨b0, b1, true, b3, b4, b5, b6, b7, b8, rfl, rfl, hHB, hHW⟩)
     simp [go_sem, hu2]
    ·
     simp only [List.getElem?_toArray, List.getElem?_cons_succ, List.getElem?_cons_zero, Option.some.injEq] at ho
     subst ho
     replace hf : b3 = false := hf
     have d2 : b2 = true := hd ⟨2, .data⟩ (by simp) rfl
     subst d2
     subst hf
     refine Go.Proofs.YtbmklpcheopgoaaReg.op_val ho2 rfl (v := .slice A0 pts.length c0) (w1 := W') ?_ (hK _ _ ⟨b0, b1, true, true, b4, b5, b6, b7, b8, rfl, rfl, hHB, hHW⟩)
     simp [go_sem, hu2, (Blks.cell hHB 2 rfl 0)]
    ·
     simp only [List.getElem?_toArray, List.getElem?_cons_succ, List.getElem?_cons_zero, Option.some.injEq] at ho
     subst ho
     replace hf : b4 = false := hf
     have d3 : b3 = true := hd ⟨3, .data⟩ (by simp) rfl
     subst d3
     subst hf
     refine Go.Proofs.YtbmklpcheopgoaaReg.op_val ho2 rfl (v := .int .i64 pts.length) (w1 := W') ?_ (hK _ _ ⟨b0, b1, b2, true, true, b5, b6, b7, b8, rfl, rfl, hHB, hHW⟩)
     simp [go_sem, hu2]
    ·
     simp only [List.getElem?_toArray, List.getElem?_cons_succ, List.getElem?_cons_zero, Option.some.injEq] at ho
     subst ho
     replace hf : b5 = false := hf
     have d4 : b4 = true := hd ⟨4, .data⟩ (by simp) rfl
     subst d4
     subst hf
     refine Go.Proofs.YtbmklpcheopgoaaReg.op_val ho2 rfl (v := .bool (decide (0 < pts.length))) (w1 := W') ?_ (hK _ _ ⟨b0, b1, b2, b3, true, true, b6, b7, b8, rfl, rfl, hHB, hHW⟩)
     simp [go_sem, hu2]
    ·
     simp only [List.getElem?_toArray, List.getElem?_cons_succ, List.getElem?_cons_zero, Option.some.injEq] at ho
     subst ho
     replace hf : b6 = false := hf
     have d0 : b0 = true := hd ⟨0, .data⟩ (by simp) rfl
     subst d0
     subst hf
     refine Go.Proofs.YtbmklpcheopgoaaReg.op_skip ho2 rfl (w1 := (((W'.setCell ⟨(w.heap.size + 1), 0, none⟩ (.int .i64 (boxSt pts pts.length).1.f0)).setCell ⟨(w.heap.size + 1), 1, none⟩ (.int .i64 (boxSt pts pts.length).1.f1)).setCell ⟨(w.heap.size + 1), 2, none⟩ (.bool (boxSt pts pts.length).1.f2))) ?_ (hK _ _ ⟨true, b1, b2, b3, b4, b5, true, b7, b8, rfl, rfl, (Blks.set (Blks.set (Blks.set hHB 1 rfl 0 (.int .i64 (boxSt pts pts.length).1.f0)) 1 rfl 1 (.int .i64 (boxSt pts pts.length).1.f1)) 1 rfl 2 (.bool (boxSt pts pts.length).1.f2)), (Below.setCell (Below.setCell (Below.setCell hHW (by dsimp only; omega) (.int .i64 (boxSt pts pts.length).1.f0)) (by dsimp only; omega) (.int .i64 (boxSt pts pts.length).1.f1)) (by dsimp only; omega) (.bool (boxSt pts pts.length).1.f2))⟩)
     simp [go_sem, hu, (Blks.cell hHB 1 rfl 0), (Blks.cell hHB 1 rfl 1), (Blks.cell hHB 1 rfl 2), (Blks.free hHB 1 rfl 0), (Blks.free hHB 1 rfl 1), (Blks.free hHB 1 rfl 2)]
    ·
     simp only [List.getElem?_toArray, List.getElem?_cons_succ, List.getElem?_cons_zero, Option.some.injEq] at ho
     subst ho
     replace hf : b7 = false := hf
     have d0 : b0 = true := hd ⟨0, .phase⟩ (by simp) rfl
     have d1 : b1 = true := hd ⟨1, .data⟩ (by simp) rfl
     have d6 : b6 = true := hd ⟨6, .chain⟩ (by simp) rfl
     subst d0
     subst d1
     subst d6
     subst hf
     refine Go.Proofs.YtbmklpcheopgoaaReg.op_skip ho2 rfl (w1 := (((W'.setCell ⟨(w.heap.size + 1 + 1), 0, none⟩ (.int .i64 (boxSt pts pts.length).2.f0)).setCell ⟨(w.heap.size + 1 + 1), 1, none⟩ (.int .i64 (boxSt pts pts.length).2.f1)).setCell ⟨(w.heap.size + 1 + 1), 2, none⟩ (.bool (boxSt pts pts.length).2.f2))) ?_ (hK _ _ ⟨true, true, b2, b3, b4, b5, true, true, b8, rfl, rfl, (Blks.set (Blks.set (Blks.set hHB 0 rfl 0 (.int .i64 (boxSt pts pts.length).2.f0)) 0 rfl 1 (.int .i64 (boxSt pts pts.length).2.f1)) 0 rfl 2 (.bool (boxSt pts pts.length).2.f2)), (Below.setCell (Below.setCell (Below.setCell hHW (by dsimp only; omega) (.int .i64 (boxSt pts pts.length).2.f0)) (by dsimp only; omega) (.int .i64 (boxSt pts pts.length).2.f1)) (by dsimp only; omega) (.bool (boxSt pts pts.length).2.f2))⟩)
     simp [go_sem, hu, (Blks.cell hHB 0 rfl 0), (Blks.cell hHB 0 rfl 1), (Blks.cell hHB 0 rfl 2), (Blks.free hHB 0 rfl 0), (Blks.free hHB 0 rfl 1), (Blks.free hHB 0 rfl 2)]
    ·
     simp only [List.getElem?_toArray, List.getElem?_cons_succ, List.getElem?_cons_zero, Option.some.injEq] at ho
     subst ho
     replace hf : b8 = false := hf
     have d0 : b0 = true := hd ⟨0, .phase⟩ (by simp) rfl
     have d1 : b1 = true := hd ⟨1, .phase⟩ (by simp) rfl
     have d2 : b2 = true := hd ⟨2, .phase⟩ (by simp) rfl
     have d3 : b3 = true := hd ⟨3, .phase⟩ (by simp) rfl
     have d4 : b4 = true := hd ⟨4, .phase⟩ (by simp) rfl
     have d5 : b5 = true := hd ⟨5, .data⟩ (by simp) rfl
     have d6 : b6 = true := hd ⟨6, .phase⟩ (by simp) rfl
     have d7 : b7 = true := hd ⟨7, .chain⟩ (by simp) rfl
     subst d0
     subst d1
     subst d2
     subst d3
     subst d4
     subst d5
     subst d6
     subst d7
     subst hf
     refine Go.Proofs.YtbmklpcheopgoaaReg.op_val ho2 rfl (v := .bool (decide (0 < pts.length))) (w1 := W') ?_ (hK _ _ ⟨true, true, true, true, true, true, true, true, true, rfl, rfl, hHB, hHW⟩)
     simp [go_sem, hu2]
   ·
    rintro lst a W' ⟨b0, b1, b2, b3, b4, b5, b6, b7, b8, rfl, rfl, hHB, hHW⟩ hall
    have a0 : b0 = true := hall 0 (by decide)
    have a1 : b1 = true := hall 1 (by decide)
    have a2 : b2 = true := hall 2 (by decide)
    have a3 : b3 = true := hall 3 (by decide)
    have a4 : b4 = true := hall 4 (by decide)
    have a5 : b5 = true := hall 5 (by decide)
    have a6 : b6 = true := hall 6 (by decide)
    have a7 : b7 = true := hall 7 (by decide)
    have a8 : b8 = true := hall 8 (by decide)
    subst a0 a1 a2 a3 a4 a5 a6 a7 a8
    clear hall
    have HB : Blks [((w.heap.size + 1 + 1), .cells #[.int .i64 (boxSt pts pts.length).2.f0, .int .i64 (boxSt pts pts.length).2.f1, .bool (boxSt pts pts.length).2.f2] 33 (0, 0)), ((w.heap.size + 1), .cells #[.int .i64 (boxSt pts pts.length).1.f0, .int .i64 (boxSt pts pts.length).1.f1, .bool (boxSt pts pts.length).1.f2] 33 (0, 0)), (w.heap.size, .cells #[.slice A0 pts.length c0, v1] 25 (0, 0))] W' := hHB
    have HW : Below w.heap.size w W' := hHW
    clear hHB hHW
    go_wp2
    refine bodyPost_ret (v := .tuple #[.agg #[.int .i64 (boxSt pts pts.length).1.f0, .int .i64 (boxSt pts pts.length).1.f1, .bool (boxSt pts pts.length).1.f2], .agg #[.int .i64 (boxSt pts pts.length).2.f0, .int .i64 (boxSt pts pts.length).2.f1, .bool (boxSt pts pts.length).2.f2], .bool (decide (0 < pts.length))]) ?_ rfl ⟨rfl, HW⟩
    simp [results, Try.f19, go_sem, HB.cell 0 rfl 0, HB.cell 0 rfl 1, HB.cell 0 rfl 2, HB.cell 1 rfl 0, HB.cell 1 rfl 1, HB.cell 1 rfl 2]
def outline_Box.f (l0_0 : List S33) (l0_1 : List Int) : Option (Int × Int × Bool × Int × Int × Bool × Bool) :=
 some ((boxSt l0_0 l0_0.length).1.f0, (boxSt l0_0 l0_0.length).1.f1, (boxSt l0_0 l0_0.length).1.f2, (boxSt l0_0 l0_0.length).2.f0, (boxSt l0_0 l0_0.length).2.f1, (boxSt l0_0 l0_0.length).2.f2, decide (0 < l0_0.length))
theorem outline_Box.calls (A0_0 : Option Addr) (c0_0 : Nat) (l0_0 : List (S33)) (A0_1 : Option Addr) (c0_1 : Nat) (l0_1 : List Int) (r1 : Int) (r2 : Int) (r3 : Bool) (r4 : Int) (r5 : Int) (r6 : Bool) (r7 : Bool) (w : World) (hr0_0 : Kd.C k33 w A0_0 l0_0.length l0_0) (hc0_0 : l0_0.length ≤ c0_0) (hr0_1 : Kd.C (Kd.int .i64) w A0_1 l0_1.length l0_1) (hc0_1 : l0_1.length ≤ c0_1) (h : outline_Box.f l0_0 l0_1 = some (r1, r2, r3, r4, r5, r6, r7)) :
  Calls Try.prog 19 #[.agg #[.slice A0_0 l0_0.length c0_0, .slice A0_1 l0_1.length c0_1]] w fun e w' => e = .returned (.tuple #[.agg #[.int .i64 r1, .int .i64 r2, .bool r3], .agg #[.int .i64 r4, .int .i64 r5, .bool r6], .bool r7]) ∧ Below w.heap.size w w' := by
 unfold outline_Box.f at h
 simp only [Option.some.injEq, Prod.mk.injEq] at h
 obtain ⟨rfl, rfl, rfl, rfl, rfl, rfl, rfl⟩ := h
 exact box_calls A0_0 c0_0 l0_0 _ w hr0_0 hc0_0
end Go.Proofs.Ytbmklpcheopgoaa.H

namespace Go.Proofs.Ytbmklpcheopgoaa.H
open Go.RowKit Go.Proofs.YtbmklpcheopgoaaW.PrintWords Go.Proofs.YtbmklpcheopgoaaW.PrintLast Go.Proofs.YtbmklpcheopgoaaW.PrintMore
attribute [local go_sem] max2_int min2_int max_two min_two max_three min_three max_four min_four
set_option linter.unusedVariables false
set_option linter.unusedSimpArgs false
mutual
def outline_Right.j0 : Nat → Bool → List (S33) → List Int → Option (Bool)
 | 0, _, _, _ => none
 | k + 1, x17, x144000, x144001 => if x17 = true then (some false) else (outline_Right.l0 k x144000 (x144000.length : Int) 0 x144000 x144001)
def outline_Right.l0 : Nat → List (S33) → Int → Int → List (S33) → List Int → Option (Bool)
 | 0, _, _, _, _, _ => none
 | k + 1, x19, x20, x21, x144000, x144001 => if x21 < x20 then (if 0 ≤ x21 then (if x21 < (x19.length : Int) then (if (mx ((rd_T33 x19 x21).f0) ((rd_T33 x19 x21).f1)) > 16384 then (some false) else (if (mn ((rd_T33 x19 x21).f0) ((rd_T33 x19 x21).f1)) < (-16384) then (some false) else (outline_Right.l0 k x19 x20 (wrap64 (x21 + 1)) x144000 x144001))) else (none)) else (none)) else (outline_Right.l1 k (-1) x144001 (x144001.length : Int) 0 x144000 x144001)
def outline_Right.l1 : Nat → Int → List Int → Int → Int → List (S33) → List Int → Option (Bool)
 | 0, _, _, _, _, _, _ => none
 | k + 1, x5, x41, x42, x43, x144000, x144001 => if x43 < x42 then (if 0 ≤ x43 then (if x43 < (x41.length : Int) then (if (rd x41 x43) < (wrap64 (x5 + 2)) then (some false) else (if (rd x41 x43) ≥ (x144000.length : Int) then (some false) else (outline_Right.l1 k (rd x41 x43) x41 x42 (wrap64 (x43 + 1)) x144000 x144001))) else (none)) else (none)) else (some (x5 == (wrap64 ((x144000.length : Int) - 1))))
end
def outline_Right.f (k : Nat) (l0_0 : List (S33)) (l0_1 : List Int) : Option (Bool) := if (l0_0.length : Int) > 200 then (outline_Right.j0 k true l0_0 l0_1) else (outline_Right.j0 k (decide ((l0_1.length : Int) > 40)) l0_0 l0_1)
theorem outline_Right.mono_l : ∀ k, (∀ y0 y1 y2, LeO (outline_Right.j0 k y0 y1 y2) (outline_Right.j0 (k + 1) y0 y1 y2)) ∧ (∀ y0 y1 y2 y3 y4, LeO (outline_Right.l0 k y0 y1 y2 y3 y4) (outline_Right.l0 (k + 1) y0 y1 y2 y3 y4)) ∧ (∀ y0 y1 y2 y3 y4 y5, LeO (outline_Right.l1 k y0 y1 y2 y3 y4 y5) (outline_Right.l1 (k + 1) y0 y1 y2 y3 y4 y5))
 | 0 => ⟨fun _ _ _ r h => by simp [outline_Right.j0] at h, fun _ _ _ _ _ r h => by simp [outline_Right.l0] at h, fun _ _ _ _ _ _ r h => by simp [outline_Right.l1] at h⟩
 | k + 1 => by
  obtain ⟨ih0, ih1, ih2⟩ := outline_Right.mono_l k
  refine ⟨?_, ?_, ?_⟩
  ·
   intro y0 y1 y2
   unfold outline_Right.j0
   repeat' first
   | (with_reducible exact ih0 _ _ _)
   | (with_reducible exact ih1 _ _ _ _ _)
   | (with_reducible exact ih2 _ _ _ _ _ _)
   | (with_reducible exact LeO.refl _)
   | (with_reducible exact LeO.none _)
   | (with_reducible refine LeO.ite ?_ ?_)
   | (with_reducible refine LeO.bind ?_ (fun _ => ?_))
   | exact ih0 _ _ _
   | exact ih1 _ _ _ _ _
   | exact ih2 _ _ _ _ _ _
   | exact LeO.none _
   | refine LeO.ite ?_ ?_
   | refine LeO.bind ?_ (fun _ => ?_)
  ·
   intro y0 y1 y2 y3 y4
   unfold outline_Right.l0
   repeat' first
   | (with_reducible exact ih0 _ _ _)
   | (with_reducible exact ih1 _ _ _ _ _)
   | (with_reducible exact ih2 _ _ _ _ _ _)
   | (with_reducible exact LeO.refl _)
   | (with_reducible exact LeO.none _)
   | (with_reducible refine LeO.ite ?_ ?_)
   | (with_reducible refine LeO.bind ?_ (fun _ => ?_))
   | exact ih0 _ _ _
   | exact ih1 _ _ _ _ _
   | exact ih2 _ _ _ _ _ _
   | exact LeO.none _
   | refine LeO.ite ?_ ?_
   | refine LeO.bind ?_ (fun _ => ?_)
  ·
   intro y0 y1 y2 y3 y4 y5
   unfold outline_Right.l1
   repeat' first
   | (with_reducible exact ih0 _ _ _)
   | (with_reducible exact ih1 _ _ _ _ _)
   | (with_reducible exact ih2 _ _ _ _ _ _)
   | (with_reducible exact LeO.refl _)
   | (with_reducible exact LeO.none _)
   | (with_reducible refine LeO.ite ?_ ?_)
   | (with_reducible refine LeO.bind ?_ (fun _ => ?_))
   | exact ih0 _ _ _
   | exact ih1 _ _ _ _ _
   | exact ih2 _ _ _ _ _ _
   | exact LeO.none _
   | refine LeO.ite ?_ ?_
   | refine LeO.bind ?_ (fun _ => ?_)
theorem outline_Right.mono : ∀ a0 a1 k, LeO (outline_Right.f k a0 a1) (outline_Right.f (k + 1) a0 a1) := by
 intro a0 a1 k
 obtain ⟨ih0, ih1, ih2⟩ := outline_Right.mono_l k
 unfold outline_Right.f
 repeat' first
   | (with_reducible exact ih0 _ _ _)
   | (with_reducible exact ih1 _ _ _ _ _)
   | (with_reducible exact ih2 _ _ _ _ _ _)
   | (with_reducible exact LeO.refl _)
   | (with_reducible exact LeO.none _)
   | (with_reducible refine LeO.ite ?_ ?_)
   | (with_reducible refine LeO.bind ?_ (fun _ => ?_))
   | exact ih0 _ _ _
   | exact ih1 _ _ _ _ _
   | exact ih2 _ _ _ _ _ _
   | exact LeO.none _
   | refine LeO.ite ?_ ?_
   | refine LeO.bind ?_ (fun _ => ?_)
set_option maxHeartbeats 8000000 in
set_option maxRecDepth 100000 in
theorem outline_Right.calls (k : Nat) (A0_0 : Option Addr) (c0_0 : Nat) (l0_0 : List (S33)) (A0_1 : Option Addr) (c0_1 : Nat) (l0_1 : List Int) (r : Bool) (w : World) (hr0_0 : Kd.C k33 w A0_0 l0_0.length l0_0) (hc0_0 : l0_0.length ≤ c0_0) (hr0_1 : Kd.C (Kd.int .i64) w A0_1 l0_1.length l0_1) (hc0_1 : l0_1.length ≤ c0_1) (h : outline_Right.f k l0_0 l0_1 = some r) :
  Calls Try.prog 22 #[.agg #[.slice A0_0 l0_0.length c0_0, .slice A0_1 l0_1.length c0_1]] w fun e w' => e = .returned (.bool r) ∧ Below w.heap.size w w' := by
 have hu25 := Try.underlying25
 have hu33 := Try.underlying33
 have HR0_0 := aM hr0_0
 have HC0_0 := aM hc0_0
 clear hr0_0 hc0_0
 have HR0_1 := aM hr0_1
 have HC0_1 := aM hc0_1
 clear hr0_1 hc0_1
 have HB := aM (Below.refl w.heap.size w)
 have H : (if (l0_0.length : Int) > 200 then (outline_Right.j0 k true l0_0 l0_1) else (outline_Right.j0 k (decide ((l0_1.length : Int) > 40)) l0_0 l0_1)) = some r := h
 clear h
 have HC2 := aM H
 clear H
 go_enter Try.func22, Try.ntmps22
 go_upto_region 1 with (first | ((with_reducible refine gate_dst (N := 1) rfl ?_); (try (refine gate_guard (by rfl) ?_; dsimp only)); refine box_event ?hg (N := 1) ?hd (cs := #[.slice A0_0 l0_0.length c0_0, .slice A0_1 l0_1.length c0_1]) (t := 25) ?hr ?_; (case hd => rfl); (case hg => rfl); (case hr => first | (go_simp; done) | (go_simp; rfl)); intro gb143 hg w3 hbox hb; have n0_ := aM (below_step (by repeat (first | (with_reducible first | exact HB.out | apply bA | apply bN | apply bD) | exact HB.out)) hb); have n1_ := aM (hbox); have n2_ := aM ((by rw [hg]; exact (below_size (by repeat (first | (with_reducible first | exact HB.out | apply bA | apply bN | apply bD) | exact HB.out))) : w.heap.size ≤ gb143)); have n3_ := aM ((by rw [hg]; exact (below_size (by repeat (first | (with_reducible first | exact HB.out | apply bA | apply bN | apply bD) | exact HB.out))) : w.heap.size ≤ gb143)); clear HB; have HB := n0_; have BK143 := n1_; have GW143 := n2_; have GE143 := n3_; clear n0_ n1_ n2_ n3_; clear hb hbox hg))
 (try simp only [Act.put, List.setIfInBounds_toArray, List.set_cons_zero, List.set_cons_succ])
 go_cut [17] (fun v17 wc => ∃ (kq : Nat) (x17_1 : Bool), v17 = .bool x17_1 ∧ Aside0 (outline_Right.j0 kq x17_1 l0_0 l0_1 = some r) ∧ Aside0 (kq ≤ k) ∧ Aside0 (wc.heap[gb143]? = some (.cells #[(.slice A0_0 l0_0.length c0_0), (.slice A0_1 l0_1.length c0_1)] 25 (0, 0))) ∧ Aside0 (Below w.heap.size w wc))
 case first =>
  have H := HC2.out
  clear HC2
  by_cases c4 : (l0_0.length : Int) > 200
  ·
   rw [if_pos c4] at H
   have c4b0 : decide (200 < (l0_0.length : Int)) = true := decide_eq_true c4
   have c4b1 : decide (200 < l0_0.length) = true := decide_eq_true (by omega)
   clear c4
   (first | rw [c4b0] | (simp only [i64_w, i32_w]; rw [c4b0]) | skip)
   have H' := aM H
   clear H
   have hcz5_0 : w3.cell? ⟨gb143, 0, none⟩ = some (.slice A0_0 l0_0.length c0_0) := (blk_cell BK143.out 0).trans rfl
   have hcz5_1 : w3.cell? ⟨gb143, 1, none⟩ = some (.slice A0_1 l0_1.length c0_1) := (blk_cell BK143.out 1).trans rfl
   have hfz5_0 := blk_frozen BK143.out 0
   have hfz5_1 := blk_frozen BK143.out 1
   go_wp2
   go_meet
   case rel => exact ⟨_, (true), (by first | rfl | (simp; done) | (simp [*]; done)), H', ⟨by first | omega | exact Nat.le_refl _⟩, ⟨by (with_reducible repeat (first | refine kN ?_ _ | refine kD ?_ | refine kA ?_ _)); exact BK143.out⟩, ⟨by repeat (first | (with_reducible first | exact HB.out | apply bA | apply bN | apply bD | refine bS ?_ GE143.out) | exact HB.out)⟩⟩
  ·
   rw [if_neg c4] at H
   have c4b0 : decide (200 < (l0_0.length : Int)) = false := decide_eq_false c4
   have c4b1 : decide (200 < l0_0.length) = false := decide_eq_false (by omega)
   clear c4
   (first | rw [c4b0] | (simp only [i64_w, i32_w]; rw [c4b0]) | skip)
   have H' := aM H
   clear H
   have hcz6_0 : w3.cell? ⟨gb143, 0, none⟩ = some (.slice A0_0 l0_0.length c0_0) := (blk_cell BK143.out 0).trans rfl
   have hcz6_1 : w3.cell? ⟨gb143, 1, none⟩ = some (.slice A0_1 l0_1.length c0_1) := (blk_cell BK143.out 1).trans rfl
   have hfz6_0 := blk_frozen BK143.out 0
   have hfz6_1 := blk_frozen BK143.out 1
   go_wp2
   go_meet
   case rel => exact ⟨_, (decide ((l0_1.length : Int) > 40)), (by first | rfl | (simp; done) | (simp [*]; done)), H', ⟨by first | omega | exact Nat.le_refl _⟩, ⟨by (with_reducible repeat (first | refine kN ?_ _ | refine kD ?_ | refine kA ?_ _)); exact BK143.out⟩, ⟨by repeat (first | (with_reducible first | exact HB.out | apply bA | apply bN | apply bD | refine bS ?_ GE143.out) | exact HB.out)⟩⟩
 case rest =>
  clear HC2
  try clear c2
  try clear p2
  try clear c4
  try clear c4b0
  try clear c4b1
  try clear hcz5_0
  try clear hcz5_1
  try clear hcz6_0
  try clear hcz6_1
  try clear hfz5_0
  try clear hfz5_1
  try clear hfz6_0
  try clear hfz6_1
  obtain ⟨kq, x17_1, rfl, HA, HJ1, BK143, HB⟩ := hcut
  cases kq with
  | zero => exact absurd HA.out (by simp [outline_Right.j0])
  | succ kj1 =>
   have H := HA.out
   clear HA
   simp only [outline_Right.j0] at H
   by_cases c7 : x17_1 = true
   ·
    subst c7
    have H1 : (some false) = some r := by rw [if_pos rfl] at H; exact H
    clear H
    have H := H1
    clear H1
    obtain rfl := Option.some.inj H
    go_wp2
    go_ret
    exact ⟨by first | rfl | (simp [errW_none, errW_some] <;> rfl) | (simp [*, errW_none, errW_some] <;> rfl), by repeat (first | (with_reducible first | exact HB.out | apply bA | apply bN | apply bD | refine bS ?_ GE143.out) | exact HB.out)⟩
   ·
    replace c7 := Bool.eq_false_iff.mpr c7
    subst c7
    have H1 : (outline_Right.l0 kj1 l0_0 (l0_0.length : Int) 0 l0_0 l0_1) = some r := by rw [if_neg (show ¬ (false = true) by decide)] at H; exact H
    clear H
    have H := H1
    clear H1
    have H' := aM H
    clear H
    have hcz8_0 : wc.cell? ⟨gb143, 0, none⟩ = some (.slice A0_0 l0_0.length c0_0) := (blk_cell BK143.out 0).trans rfl
    have hcz8_1 : wc.cell? ⟨gb143, 1, none⟩ = some (.slice A0_1 l0_1.length c0_1) := (blk_cell BK143.out 1).trans rfl
    have hfz8_0 := blk_frozen BK143.out 0
    have hfz8_1 := blk_frozen BK143.out 1
    go_wp2
    go_loopg [21] kj1 (fun kq v21 w' => ∃ (x21_2 : Int), v21 = .int .i64 x21_2 ∧ Aside0 (outline_Right.l0 kq l0_0 (l0_0.length : Int) x21_2 l0_0 l0_1 = some r) ∧ Aside0 (kq ≤ kj1) ∧ Aside0 (w'.heap[gb143]? = some (.cells #[(.slice A0_0 l0_0.length c0_0), (.slice A0_1 l0_1.length c0_1)] 25 (0, 0))) ∧ Aside0 (Below w.heap.size w w'))
    case atStart => exact ⟨(0), (by first | rfl | (simp; done) | (simp [*]; done)), H', ⟨Nat.le_refl _⟩, ⟨by (with_reducible repeat (first | refine kN ?_ _ | refine kD ?_ | refine kA ?_ _)); exact BK143.out⟩, ⟨by repeat (first | (with_reducible first | exact HB.out | apply bA | apply bN | apply bD | refine bS ?_ GE143.out) | exact HB.out)⟩⟩
    case round =>
     clear H'
     try clear c2
     try clear p2
     try clear c4
     try clear c4b0
     try clear c4b1
     try clear c7
     try clear hcz5_0
     try clear hcz5_1
     try clear hcz6_0
     try clear hcz6_1
     try clear hcz8_0
     try clear hcz8_1
     try clear hfz5_0
     try clear hfz5_1
     try clear hfz6_0
     try clear hfz6_1
     try clear hfz8_0
     try clear hfz8_1
     try clear p2
     obtain ⟨x21_2, rfl, HA, HK2, BK143, HB⟩ := hrel
     cases gk with
     | zero => exact absurd HA.out (by simp [outline_Right.l0])
     | succ k2 =>
      have H := HA.out
      clear HA
      simp only [outline_Right.l0] at H
      by_cases c9 : x21_2 < (l0_0.length : Int)
      ·
       rw [if_pos c9] at H
       have c9b0 : decide (x21_2 < (l0_0.length : Int)) = true := decide_eq_true c9
       clear c9
       by_cases c10 : 0 ≤ x21_2
       ·
        rw [if_pos c10] at H
        have c10b0 : decide (0 ≤ x21_2) = true := decide_eq_true c10
        clear c10
        by_cases c11 : x21_2 < (l0_0.length : Int)
        ·
         rw [if_pos c11] at H
         have c11b0 : decide (x21_2 < (l0_0.length : Int)) = true := decide_eq_true c11
         clear c11
         obtain ⟨ji12, hji12⟩ : ∃ j_ : Int, (mx ((rd_T33 l0_0 x21_2).f0) ((rd_T33 l0_0 x21_2).f1)) = j_ := ⟨_, rfl⟩
         replace H : (if (ji12) > 16384 then (some false) else (if (mn ((rd_T33 l0_0 x21_2).f0) ((rd_T33 l0_0 x21_2).f1)) < (-16384) then (some false) else (outline_Right.l0 k2 l0_0 (l0_0.length : Int) (wrap64 (x21_2 + 1)) l0_0 l0_1))) = some r := by first | (rw [hji12] at H; exact H) | (simp only [hji12] at H ⊢; exact H)
         have hji12_ : (if ((rd_T33 l0_0 x21_2).f0) < ((rd_T33 l0_0 x21_2).f1) then ((rd_T33 l0_0 x21_2).f1) else ((rd_T33 l0_0 x21_2).f0)) = ji12 := hji12
         by_cases c13 : (ji12) > 16384
         ·
          rw [if_pos c13] at H
          have c13b0 : decide (16384 < (ji12)) = true := decide_eq_true c13
          clear c13
          obtain rfl := Option.some.inj H
          have p144 : 0 ≤ (x21_2 : Int) := dT (by assumption)
          have q144 : x21_2 < (l0_0.length : Int) := dT (by assumption)
          obtain ⟨ad144, e144, hx144_0, hx144_1, hx144_2⟩ := at_T33 HR0_0.out x21_2 p144 q144
          cases e144
          replace hx144_0 := (HB.out.cell (World.block_lt_of_cell? w _ hx144_0)).trans hx144_0
          replace hx144_1 := (HB.out.cell (World.block_lt_of_cell? w _ hx144_1)).trans hx144_1
          replace hx144_2 := (HB.out.cell (World.block_lt_of_cell? w _ hx144_2)).trans hx144_2
          replace p144 := eq_true p144
          replace q144 := eq_true q144
          go_wp2_with (first | ((with_reducible refine gate_dst (N := 4) rfl ?_); (try (refine gate_guard (by rfl) ?_; dsimp only)); refine box_event ?hg (N := 4) ?hd (cs := #[.int .i64 0, .int .i64 0, .bool false]) (t := 33) ?hr ?_; (case hd => rfl); (case hg => rfl); (case hr => first | (go_simp; done) | (go_simp; rfl)); intro gb145 hg w14 hbox hb; have n0_ := aM (blk_below (g := gb143) (o := .cells #[.slice (some ad144) l0_0.length c0_0, .slice A0_1 l0_1.length c0_1] 25 (0, 0)) (by (with_reducible repeat (first | refine kN ?_ _ | refine kD ?_ | refine kA ?_ _)); exact BK143.out) hb); have n1_ := aM (below_step (by repeat (first | (with_reducible first | exact HB.out | apply bA | apply bN | apply bD | refine bS ?_ GE143.out) | exact HB.out)) hb); have n2_ := aM (hbox); have n3_ := aM ((by rw [hg]; exact (below_size (by repeat (first | (with_reducible first | exact HB.out | apply bA | apply bN | apply bD | refine bS ?_ GE143.out) | exact HB.out))) : w.heap.size ≤ gb145)); have n4_ := aM ((by rw [hg]; exact (below_size (by repeat (first | (with_reducible first | exact HB.out | apply bA | apply bN | apply bD | refine bS ?_ GE143.out) | exact HB.out))) : w.heap.size ≤ gb145)); have n5_ := aM ((by rw [hg]; exact Nat.ne_of_lt (blk_lt (g := gb143) (o := .cells #[.slice (some ad144) l0_0.length c0_0, .slice A0_1 l0_1.length c0_1] 25 (0, 0)) (by (with_reducible repeat (first | refine kN ?_ _ | refine kD ?_ | refine kA ?_ _)); exact BK143.out)) : gb143 ≠ gb145)); have n6_ := aM ((by rw [hg]; exact Nat.ne_of_gt (blk_lt (g := gb143) (o := .cells #[.slice (some ad144) l0_0.length c0_0, .slice A0_1 l0_1.length c0_1] 25 (0, 0)) (by (with_reducible repeat (first | refine kN ?_ _ | refine kD ?_ | refine kA ?_ _)); exact BK143.out)) : gb145 ≠ gb143)); clear BK143; clear HB; have BK143 := n0_; have HB := n1_; have BK145 := n2_; have GW145 := n3_; have GE145 := n4_; have NB143_145 := n5_; have NB145_143 := n6_; clear n0_ n1_ n2_ n3_ n4_ n5_ n6_; clear hb hbox hg; have hnb15 := NB145_143.out; have hnc15 := NB143_145.out; have hcz16_0 : w14.cell? ⟨gb145, 0, none⟩ = some (.int .i64 0) := (blk_cell BK145.out 0).trans rfl; have hcz16_1 : w14.cell? ⟨gb145, 1, none⟩ = some (.int .i64 0) := (blk_cell BK145.out 1).trans rfl; have hcz16_2 : w14.cell? ⟨gb145, 2, none⟩ = some (.bool false) := (blk_cell BK145.out 2).trans rfl; have hfz16_0 := blk_frozen BK145.out 0; have hfz16_1 := blk_frozen BK145.out 1; have hfz16_2 := blk_frozen BK145.out 2))
          go_ret
          exact ⟨by first | rfl | (simp [errW_none, errW_some] <;> rfl) | (simp only [← hji12]; first | rfl | (simp [errW_none, errW_some] <;> rfl)) | (simp [*, errW_none, errW_some] <;> rfl), by repeat (first | (with_reducible first | exact HB.out | apply bA | apply bN | apply bD | refine bS ?_ GE143.out | refine bS ?_ GE145.out) | exact HB.out)⟩
         ·
          rw [if_neg c13] at H
          have c13b0 : decide (16384 < (ji12)) = false := decide_eq_false c13
          clear c13
          obtain ⟨ji17, hji17⟩ : ∃ j_ : Int, (mn ((rd_T33 l0_0 x21_2).f0) ((rd_T33 l0_0 x21_2).f1)) = j_ := ⟨_, rfl⟩
          replace H : (if (ji17) < (-16384) then (some false) else (outline_Right.l0 k2 l0_0 (l0_0.length : Int) (wrap64 (x21_2 + 1)) l0_0 l0_1)) = some r := by first | (rw [hji17] at H; exact H) | (simp only [hji17] at H ⊢; exact H)
          have hji17_ : (if ((rd_T33 l0_0 x21_2).f1) < ((rd_T33 l0_0 x21_2).f0) then ((rd_T33 l0_0 x21_2).f1) else ((rd_T33 l0_0 x21_2).f0)) = ji17 := hji17
          by_cases c18 : (ji17) < (-16384)
          ·
           rw [if_pos c18] at H
           have c18b0 : decide ((ji17) < (-16384)) = true := decide_eq_true c18
           clear c18
           obtain rfl := Option.some.inj H
           have p144 : 0 ≤ (x21_2 : Int) := dT (by assumption)
           have q144 : x21_2 < (l0_0.length : Int) := dT (by assumption)
           obtain ⟨ad144, e144, hx144_0, hx144_1, hx144_2⟩ := at_T33 HR0_0.out x21_2 p144 q144
           cases e144
           replace hx144_0 := (HB.out.cell (World.block_lt_of_cell? w _ hx144_0)).trans hx144_0
           replace hx144_1 := (HB.out.cell (World.block_lt_of_cell? w _ hx144_1)).trans hx144_1
           replace hx144_2 := (HB.out.cell (World.block_lt_of_cell? w _ hx144_2)).trans hx144_2
           replace p144 := eq_true p144
           replace q144 := eq_true q144
           go_wp2_with (first | ((with_reducible refine gate_dst (N := 4) rfl ?_); (try (refine gate_guard (by rfl) ?_; dsimp only)); refine box_event ?hg (N := 4) ?hd (cs := #[.int .i64 0, .int .i64 0, .bool false]) (t := 33) ?hr ?_; (case hd => rfl); (case hg => rfl); (case hr => first | (go_simp; done) | (go_simp; rfl)); intro gb145 hg w19 hbox hb; have n0_ := aM (blk_below (g := gb143) (o := .cells #[.slice (some ad144) l0_0.length c0_0, .slice A0_1 l0_1.length c0_1] 25 (0, 0)) (by (with_reducible repeat (first | refine kN ?_ _ | refine kD ?_ | refine kA ?_ _)); exact BK143.out) hb); have n1_ := aM (below_step (by repeat (first | (with_reducible first | exact HB.out | apply bA | apply bN | apply bD | refine bS ?_ GE143.out) | exact HB.out)) hb); have n2_ := aM (hbox); have n3_ := aM ((by rw [hg]; exact (below_size (by repeat (first | (with_reducible first | exact HB.out | apply bA | apply bN | apply bD | refine bS ?_ GE143.out) | exact HB.out))) : w.heap.size ≤ gb145)); have n4_ := aM ((by rw [hg]; exact (below_size (by repeat (first | (with_reducible first | exact HB.out | apply bA | apply bN | apply bD | refine bS ?_ GE143.out) | exact HB.out))) : w.heap.size ≤ gb145)); have n5_ := aM ((by rw [hg]; exact Nat.ne_of_lt (blk_lt (g := gb143) (o := .cells #[.slice (some ad144) l0_0.length c0_0, .slice A0_1 l0_1.length c0_1] 25 (0, 0)) (by (with_reducible repeat (first | refine kN ?_ _ | refine kD ?_ | refine kA ?_ _)); exact BK143.out)) : gb143 ≠ gb145)); have n6_ := aM ((by rw [hg]; exact Nat.ne_of_gt (blk_lt (g := gb143) (o := .cells #[.slice (some ad144) l0_0.length c0_0, .slice A0_1 l0_1.length c0_1] 25 (0, 0)) (by (with_reducible repeat (first | refine kN ?_ _ | refine kD ?_ | refine kA ?_ _)); exact BK143.out)) : gb145 ≠ gb143)); clear BK143; clear HB; have BK143 := n0_; have HB := n1_; have BK145 := n2_; have GW145 := n3_; have GE145 := n4_; have NB143_145 := n5_; have NB145_143 := n6_; clear n0_ n1_ n2_ n3_ n4_ n5_ n6_; clear hb hbox hg; have hnb20 := NB145_143.out; have hnc20 := NB143_145.out; have hcz21_0 : w19.cell? ⟨gb145, 0, none⟩ = some (.int .i64 0) := (blk_cell BK145.out 0).trans rfl; have hcz21_1 : w19.cell? ⟨gb145, 1, none⟩ = some (.int .i64 0) := (blk_cell BK145.out 1).trans rfl; have hcz21_2 : w19.cell? ⟨gb145, 2, none⟩ = some (.bool false) := (blk_cell BK145.out 2).trans rfl; have hfz21_0 := blk_frozen BK145.out 0; have hfz21_1 := blk_frozen BK145.out 1; have hfz21_2 := blk_frozen BK145.out 2))
           go_ret
           exact ⟨by first | rfl | (simp [errW_none, errW_some] <;> rfl) | (simp only [← hji12, ← hji17]; first | rfl | (simp [errW_none, errW_some] <;> rfl)) | (simp [*, errW_none, errW_some] <;> rfl), by repeat (first | (with_reducible first | exact HB.out | apply bA | apply bN | apply bD | refine bS ?_ GE143.out | refine bS ?_ GE145.out) | exact HB.out)⟩
          ·
           rw [if_neg c18] at H
           have c18b0 : decide ((ji17) < (-16384)) = false := decide_eq_false c18
           clear c18
           have H' := aM H
           clear H
           have p144 : 0 ≤ (x21_2 : Int) := dT (by assumption)
           have q144 : x21_2 < (l0_0.length : Int) := dT (by assumption)
           obtain ⟨ad144, e144, hx144_0, hx144_1, hx144_2⟩ := at_T33 HR0_0.out x21_2 p144 q144
           cases e144
           replace hx144_0 := (HB.out.cell (World.block_lt_of_cell? w _ hx144_0)).trans hx144_0
           replace hx144_1 := (HB.out.cell (World.block_lt_of_cell? w _ hx144_1)).trans hx144_1
           replace hx144_2 := (HB.out.cell (World.block_lt_of_cell? w _ hx144_2)).trans hx144_2
           replace p144 := eq_true p144
           replace q144 := eq_true q144
           go_wp2_with (first | ((with_reducible refine gate_dst (N := 4) rfl ?_); (try (refine gate_guard (by rfl) ?_; dsimp only)); refine box_event ?hg (N := 4) ?hd (cs := #[.int .i64 0, .int .i64 0, .bool false]) (t := 33) ?hr ?_; (case hd => rfl); (case hg => rfl); (case hr => first | (go_simp; done) | (go_simp; rfl)); intro gb145 hg w22 hbox hb; have n0_ := aM (blk_below (g := gb143) (o := .cells #[.slice (some ad144) l0_0.length c0_0, .slice A0_1 l0_1.length c0_1] 25 (0, 0)) (by (with_reducible repeat (first | refine kN ?_ _ | refine kD ?_ | refine kA ?_ _)); exact BK143.out) hb); have n1_ := aM (below_step (by repeat (first | (with_reducible first | exact HB.out | apply bA | apply bN | apply bD | refine bS ?_ GE143.out) | exact HB.out)) hb); have n2_ := aM (hbox); have n3_ := aM ((by rw [hg]; exact (below_size (by repeat (first | (with_reducible first | exact HB.out | apply bA | apply bN | apply bD | refine bS ?_ GE143.out) | exact HB.out))) : w.heap.size ≤ gb145)); have n4_ := aM ((by rw [hg]; exact (below_size (by repeat (first | (with_reducible first | exact HB.out | apply bA | apply bN | apply bD | refine bS ?_ GE143.out) | exact HB.out))) : w.heap.size ≤ gb145)); have n5_ := aM ((by rw [hg]; exact Nat.ne_of_lt (blk_lt (g := gb143) (o := .cells #[.slice (some ad144) l0_0.length c0_0, .slice A0_1 l0_1.length c0_1] 25 (0, 0)) (by (with_reducible repeat (first | refine kN ?_ _ | refine kD ?_ | refine kA ?_ _)); exact BK143.out)) : gb143 ≠ gb145)); have n6_ := aM ((by rw [hg]; exact Nat.ne_of_gt (blk_lt (g := gb143) (o := .cells #[.slice (some ad144) l0_0.length c0_0, .slice A0_1 l0_1.length c0_1] 25 (0, 0)) (by (with_reducible repeat (first | refine kN ?_ _ | refine kD ?_ | refine kA ?_ _)); exact BK143.out)) : gb145 ≠ gb143)); clear BK143; clear HB; have BK143 := n0_; have HB := n1_; have BK145 := n2_; have GW145 := n3_; have GE145 := n4_; have NB143_145 := n5_; have NB145_143 := n6_; clear n0_ n1_ n2_ n3_ n4_ n5_ n6_; clear hb hbox hg; have hnb23 := NB145_143.out; have hnc23 := NB143_145.out; have hcz24_0 : w22.cell? ⟨gb145, 0, none⟩ = some (.int .i64 0) := (blk_cell BK145.out 0).trans rfl; have hcz24_1 : w22.cell? ⟨gb145, 1, none⟩ = some (.int .i64 0) := (blk_cell BK145.out 1).trans rfl; have hcz24_2 : w22.cell? ⟨gb145, 2, none⟩ = some (.bool false) := (blk_cell BK145.out 2).trans rfl; have hfz24_0 := blk_frozen BK145.out 0; have hfz24_1 := blk_frozen BK145.out 1; have hfz24_2 := blk_frozen BK145.out 2))
           go_roundg k2
           case measure => have := HJ1.out; have := HK2.out; omega
           case rel => exact ⟨(wrap64 (x21_2 + 1)), (by first | rfl | (simp; done) | (simp [*]; done)), H', ⟨by have := HJ1.out; have := HK2.out; omega⟩, ⟨by (with_reducible repeat (first | refine kN ?_ _ | refine kD ?_ | refine kA ?_ _)); refine blk_far ?_ NB143_145.out _; (with_reducible repeat (first | refine kN ?_ _ | refine kD ?_ | refine kA ?_ _)); refine blk_far ?_ NB143_145.out _; (with_reducible repeat (first | refine kN ?_ _ | refine kD ?_ | refine kA ?_ _)); refine blk_far ?_ NB143_145.out _; (with_reducible repeat (first | refine kN ?_ _ | refine kD ?_ | refine kA ?_ _)); exact BK143.out⟩, ⟨by repeat (first | (with_reducible first | exact HB.out | apply bA | apply bN | apply bD | refine bS ?_ GE143.out | refine bS ?_ GE145.out) | exact HB.out)⟩⟩
        ·
         rw [if_neg c11] at H
         exact absurd H (by simp)
       ·
        rw [if_neg c10] at H
        exact absurd H (by simp)
      ·
       rw [if_neg c9] at H
       have c9b0 : decide (x21_2 < (l0_0.length : Int)) = false := decide_eq_false c9
       clear c9
       have H' := aM H
       clear H
       have hcz25_0 : wr.cell? ⟨gb143, 0, none⟩ = some (.slice A0_0 l0_0.length c0_0) := (blk_cell BK143.out 0).trans rfl
       have hcz25_1 : wr.cell? ⟨gb143, 1, none⟩ = some (.slice A0_1 l0_1.length c0_1) := (blk_cell BK143.out 1).trans rfl
       have hfz25_0 := blk_frozen BK143.out 0
       have hfz25_1 := blk_frozen BK143.out 1
       go_wp2
       go_loopg [5, 43] k2 (fun kq v5 v43 w' => ∃ (x5_3 : Int) (x43_3 : Int), v5 = .int .i64 x5_3 ∧ v43 = .int .i64 x43_3 ∧ Aside0 (outline_Right.l1 kq x5_3 l0_1 (l0_1.length : Int) x43_3 l0_0 l0_1 = some r) ∧ Aside0 (kq ≤ k2) ∧ Aside0 (w'.heap[gb143]? = some (.cells #[(.slice A0_0 l0_0.length c0_0), (.slice A0_1 l0_1.length c0_1)] 25 (0, 0))) ∧ Aside0 (Below w.heap.size w w'))
       case atStart => exact ⟨((-1)), (0), (by first | rfl | (simp; done) | (simp [*]; done)), (by first | rfl | (simp; done) | (simp [*]; done)), H', ⟨Nat.le_refl _⟩, ⟨by (with_reducible repeat (first | refine kN ?_ _ | refine kD ?_ | refine kA ?_ _)); exact BK143.out⟩, ⟨by repeat (first | (with_reducible first | exact HB.out | apply bA | apply bN | apply bD | refine bS ?_ GE143.out) | exact HB.out)⟩⟩
       case round =>
        clear H'
        try clear c1
        try clear p1
        try clear q1
        try clear hx1
        try clear c2
        try clear p2
        try clear c4
        try clear c4b0
        try clear c4b1
        try clear p6
        try clear c7
        try clear c9
        try clear c9b0
        try clear c10
        try clear c10b0
        try clear c11
        try clear c11b0
        try clear c13
        try clear c13b0
        try clear p14
        try clear q14
        try clear hx14
        try clear c15
        try clear c18
        try clear c18b0
        try clear c20
        try clear c22
        try clear c23
        try clear hcz16_0
        try clear hcz16_1
        try clear hcz16_2
        try clear hcz21_0
        try clear hcz21_1
        try clear hcz21_2
        try clear hcz24_0
        try clear hcz24_1
        try clear hcz24_2
        try clear hcz25_0
        try clear hcz25_1
        try clear hcz5_0
        try clear hcz5_1
        try clear hcz6_0
        try clear hcz6_1
        try clear hcz8_0
        try clear hcz8_1
        try clear hfz16_0
        try clear hfz16_1
        try clear hfz16_2
        try clear hfz21_0
        try clear hfz21_1
        try clear hfz21_2
        try clear hfz24_0
        try clear hfz24_1
        try clear hfz24_2
        try clear hfz25_0
        try clear hfz25_1
        try clear hfz5_0
        try clear hfz5_1
        try clear hfz6_0
        try clear hfz6_1
        try clear hfz8_0
        try clear hfz8_1
        try clear hx144_0
        try clear hx144_1
        try clear hx144_2
        try clear p144
        try clear p2
        try clear q144
        obtain ⟨x5_3, x43_3, rfl, rfl, HA, HK3, BK143, HB⟩ := hrel
        cases gk with
        | zero => exact absurd HA.out (by simp [outline_Right.l1])
        | succ k3 =>
         have H := HA.out
         clear HA
         simp only [outline_Right.l1] at H
         by_cases c26 : x43_3 < (l0_1.length : Int)
         ·
          rw [if_pos c26] at H
          have c26b0 : decide (x43_3 < (l0_1.length : Int)) = true := decide_eq_true c26
          clear c26
          by_cases c27 : 0 ≤ x43_3
          ·
           rw [if_pos c27] at H
           have c27b0 : decide (0 ≤ x43_3) = true := decide_eq_true c27
           clear c27
           by_cases c28 : x43_3 < (l0_1.length : Int)
           ·
            rw [if_pos c28] at H
            have c28b0 : decide (x43_3 < (l0_1.length : Int)) = true := decide_eq_true c28
            clear c28
            by_cases c29 : (rd l0_1 x43_3) < (wrap64 (x5_3 + 2))
            ·
             rw [if_pos c29] at H
             have c29b0 : decide ((rd l0_1 x43_3) < (wrap64 (x5_3 + 2))) = true := decide_eq_true c29
             clear c29
             obtain rfl := Option.some.inj H
             have p146 : 0 ≤ (x43_3 : Int) := dT (by assumption)
             have q146 : x43_3 < (l0_1.length : Int) := dT (by assumption)
             obtain ⟨ad146, e146, hx146_0⟩ := Kd.at_int HR0_1.out x43_3 p146 q146
             cases e146
             replace hx146_0 := (HB.out.cell (World.block_lt_of_cell? w _ hx146_0)).trans hx146_0
             replace p146 := eq_true p146
             replace q146 := eq_true q146
             go_wp2
             go_ret
             exact ⟨by first | rfl | (simp [errW_none, errW_some] <;> rfl) | (simp [*, errW_none, errW_some] <;> rfl), by repeat (first | (with_reducible first | exact HB.out | apply bA | apply bN | apply bD | refine bS ?_ GE143.out) | exact HB.out)⟩
            ·
             rw [if_neg c29] at H
             have c29b0 : decide ((rd l0_1 x43_3) < (wrap64 (x5_3 + 2))) = false := decide_eq_false c29
             clear c29
             by_cases c30 : (rd l0_1 x43_3) ≥ (l0_0.length : Int)
             ·
              rw [if_pos c30] at H
              have c30b0 : decide ((l0_0.length : Int) ≤ (rd l0_1 x43_3)) = true := decide_eq_true c30
              clear c30
              obtain rfl := Option.some.inj H
              have p146 : 0 ≤ (x43_3 : Int) := dT (by assumption)
              have q146 : x43_3 < (l0_1.length : Int) := dT (by assumption)
              obtain ⟨ad146, e146, hx146_0⟩ := Kd.at_int HR0_1.out x43_3 p146 q146
              cases e146
              replace hx146_0 := (HB.out.cell (World.block_lt_of_cell? w _ hx146_0)).trans hx146_0
              replace p146 := eq_true p146
              replace q146 := eq_true q146
              have hcz31_0 : wr.cell? ⟨gb143, 0, none⟩ = some (.slice A0_0 l0_0.length c0_0) := (blk_cell BK143.out 0).trans rfl
              have hcz31_1 : wr.cell? ⟨gb143, 1, none⟩ = some (.slice (some ad146) l0_1.length c0_1) := (blk_cell BK143.out 1).trans rfl
              have hfz31_0 := blk_frozen BK143.out 0
              have hfz31_1 := blk_frozen BK143.out 1
              go_wp2
              go_ret
              exact ⟨by first | rfl | (simp [errW_none, errW_some] <;> rfl) | (simp [*, errW_none, errW_some] <;> rfl), by repeat (first | (with_reducible first | exact HB.out | apply bA | apply bN | apply bD | refine bS ?_ GE143.out) | exact HB.out)⟩
             ·
              rw [if_neg c30] at H
              have c30b0 : decide ((l0_0.length : Int) ≤ (rd l0_1 x43_3)) = false := decide_eq_false c30
              clear c30
              have H' := aM H
              clear H
              have p146 : 0 ≤ (x43_3 : Int) := dT (by assumption)
              have q146 : x43_3 < (l0_1.length : Int) := dT (by assumption)
              obtain ⟨ad146, e146, hx146_0⟩ := Kd.at_int HR0_1.out x43_3 p146 q146
              cases e146
              replace hx146_0 := (HB.out.cell (World.block_lt_of_cell? w _ hx146_0)).trans hx146_0
              replace p146 := eq_true p146
              replace q146 := eq_true q146
              have hcz32_0 : wr.cell? ⟨gb143, 0, none⟩ = some (.slice A0_0 l0_0.length c0_0) := (blk_cell BK143.out 0).trans rfl
              have hcz32_1 : wr.cell? ⟨gb143, 1, none⟩ = some (.slice (some ad146) l0_1.length c0_1) := (blk_cell BK143.out 1).trans rfl
              have hfz32_0 := blk_frozen BK143.out 0
              have hfz32_1 := blk_frozen BK143.out 1
              go_wp2
              go_roundg k3
              case measure => have := HJ1.out; have := HK2.out; have := HK3.out; omega
              case rel => exact ⟨(rd l0_1 x43_3), (wrap64 (x43_3 + 1)), (by first | rfl | (simp; done) | (simp [*]; done)), (by first | rfl | (simp; done) | (simp [*]; done)), H', ⟨by have := HJ1.out; have := HK2.out; have := HK3.out; omega⟩, ⟨by (with_reducible repeat (first | refine kN ?_ _ | refine kD ?_ | refine kA ?_ _)); exact BK143.out⟩, ⟨by repeat (first | (with_reducible first | exact HB.out | apply bA | apply bN | apply bD | refine bS ?_ GE143.out) | exact HB.out)⟩⟩
           ·
            rw [if_neg c28] at H
            exact absurd H (by simp)
          ·
           rw [if_neg c27] at H
           exact absurd H (by simp)
         ·
          rw [if_neg c26] at H
          have c26b0 : decide (x43_3 < (l0_1.length : Int)) = false := decide_eq_false c26
          clear c26
          obtain rfl := Option.some.inj H
          have hcz33_0 : wr.cell? ⟨gb143, 0, none⟩ = some (.slice A0_0 l0_0.length c0_0) := (blk_cell BK143.out 0).trans rfl
          have hcz33_1 : wr.cell? ⟨gb143, 1, none⟩ = some (.slice A0_1 l0_1.length c0_1) := (blk_cell BK143.out 1).trans rfl
          have hfz33_0 := blk_frozen BK143.out 0
          have hfz33_1 := blk_frozen BK143.out 1
          go_wp2
          go_ret
          exact ⟨by first | rfl | (simp [errW_none, errW_some] <;> rfl) | (simp [*, errW_none, errW_some] <;> rfl), by repeat (first | (with_reducible first | exact HB.out | apply bA | apply bN | apply bD | refine bS ?_ GE143.out) | exact HB.out)⟩
end Go.Proofs.Ytbmklpcheopgoaa.H
