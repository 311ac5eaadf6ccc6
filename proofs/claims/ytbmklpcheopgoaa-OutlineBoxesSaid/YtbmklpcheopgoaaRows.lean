/-
  No cell of these rows narrows 'for every input' (looked for: loops, veiled, ifaces, maps, wideKeys, modest, calm, conditions, laid).
  DERIVED. THE GIVEN ROWS OF THIS SEAT. 12 by the template 'for every input the law returns true; each argument reads behind the call as it read before'; 0 by the template 'total and deterministic' (their statements: YtbmklpcheopgoaaTotals.lean).
  GIVEN WITH THE SEED: the statements are not yours to turn. If you find one false, say at which input.
  Laid BY PROGRAM, IN A SANDBOX (cutbox-rows.mjs): the forced cells as the released guide's own fill.sh prints them over the translation fd741c9ed1c698d6… (all of the seat's roots in one cut). By AI agents, Wed Nov 11 2026. No macro, syntax, notation, axiom, sorry.
-/
import Derived.Test.YtbmklpcheopgoaaChecked
import GoSem.Claim
import GoSem.ClaimJoined
import GoSem.ClaimMapViews
import Derived.JoinedTies
import Derived.KernelRfl
namespace Go.Proofs.Ytbmklpcheopgoaa
/- THE CELL 'sum', in the pinned program and in every row, IS THE sha256 OF THE DUMP (.gsa) THAT YtbmklpcheopgoaaProg.lean LOADS. Nothing in Lean hashes anything: it is a label: what it is worth is what the hold of that sum in a sandbox is worth. -/
noncomputable def Try.pinned : Pinned := { name := "ytbmklpcheopgoaa", sum := "fd741c9ed1c698d654572319ef8f451b1986a0f6c0838b09901ba0a4f6879a2a", checked := Try.checked }
namespace Rows
def none {H : Type} : Left H := { results := [], args := [] }

/-- 'fleuronlaw03.OutlineTells': WHATEVER THE INPUT: true; the input reads as it did. -/
def outlineTellsSpec : ChangeSpec := { name := "outlineTells", fn := fun _ => fun
  | [d] => { results := [.lit (.bool true)], args := [d] }
  | _ => none }
def outlineTellsRow : OpenClaim := { program := "ytbmklpcheopgoaa", sum := "fd741c9ed1c698d654572319ef8f451b1986a0f6c0838b09901ba0a4f6879a2a", func := "fleuron/fleuronlaw03.OutlineTells", spec := "outlineTells", unfollowed := true, recurses := true, plainKeys := false, apart := false }
def OutlineTellsSaid : Prop := outlineTellsRow.holds Try.pinned (OpenSpec.ofChange outlineTellsSpec)

/-- ITS FALSE NEIGHBOUR: 'it returns false'. Refute it at one input. -/
def outlineTellsWrong : ChangeSpec := { name := "outlineTells", fn := fun _ => fun
  | [d] => { results := [.lit (.bool false)], args := [d] }
  | _ => none }
def OutlineTellsWrongFalsely : Prop := outlineTellsRow.holds Try.pinned (OpenSpec.ofChange outlineTellsWrong)

/-- 'fleuronlaw03.OutlineMakes': WHATEVER THE INPUT: true; the input reads as it did. -/
def outlineMakesSpec : ChangeSpec := { name := "outlineMakes", fn := fun _ => fun
  | [d1, d2, d3] => { results := [.lit (.bool true)], args := [d1, d2, d3] }
  | _ => none }
def outlineMakesRow : OpenClaim := { program := "ytbmklpcheopgoaa", sum := "fd741c9ed1c698d654572319ef8f451b1986a0f6c0838b09901ba0a4f6879a2a", func := "fleuron/fleuronlaw03.OutlineMakes", spec := "outlineMakes", unfollowed := true, recurses := true, plainKeys := false, apart := false }
def OutlineMakesSaid : Prop := outlineMakesRow.holds Try.pinned (OpenSpec.ofChange outlineMakesSpec)

/-- ITS FALSE NEIGHBOUR: 'it returns false'. Refute it at one input. -/
def outlineMakesWrong : ChangeSpec := { name := "outlineMakes", fn := fun _ => fun
  | [d1, d2, d3] => { results := [.lit (.bool false)], args := [d1, d2, d3] }
  | _ => none }
def OutlineMakesWrongFalsely : Prop := outlineMakesRow.holds Try.pinned (OpenSpec.ofChange outlineMakesWrong)

/-- 'fleuronlaw03.OutlineLines': WHATEVER THE INPUT: true; the input reads as it did. -/
def outlineLinesSpec : ChangeSpec := { name := "outlineLines", fn := fun _ => fun
  | [d1, d2, d3] => { results := [.lit (.bool true)], args := [d1, d2, d3] }
  | _ => none }
def outlineLinesRow : OpenClaim := { program := "ytbmklpcheopgoaa", sum := "fd741c9ed1c698d654572319ef8f451b1986a0f6c0838b09901ba0a4f6879a2a", func := "fleuron/fleuronlaw03.OutlineLines", spec := "outlineLines", unfollowed := true, recurses := true, plainKeys := false, apart := false }
def OutlineLinesSaid : Prop := outlineLinesRow.holds Try.pinned (OpenSpec.ofChange outlineLinesSpec)

/-- ITS FALSE NEIGHBOUR: 'it returns false'. Refute it at one input. -/
def outlineLinesWrong : ChangeSpec := { name := "outlineLines", fn := fun _ => fun
  | [d1, d2, d3] => { results := [.lit (.bool false)], args := [d1, d2, d3] }
  | _ => none }
def OutlineLinesWrongFalsely : Prop := outlineLinesRow.holds Try.pinned (OpenSpec.ofChange outlineLinesWrong)

/-- 'fleuronlaw03.OutlineTurns': WHATEVER THE INPUT: true; the input reads as it did. -/
def outlineTurnsSpec : ChangeSpec := { name := "outlineTurns", fn := fun _ => fun
  | [d1, d2, d3] => { results := [.lit (.bool true)], args := [d1, d2, d3] }
  | _ => none }
def outlineTurnsRow : OpenClaim := { program := "ytbmklpcheopgoaa", sum := "fd741c9ed1c698d654572319ef8f451b1986a0f6c0838b09901ba0a4f6879a2a", func := "fleuron/fleuronlaw03.OutlineTurns", spec := "outlineTurns", unfollowed := true, recurses := true, plainKeys := false, apart := false }
def OutlineTurnsSaid : Prop := outlineTurnsRow.holds Try.pinned (OpenSpec.ofChange outlineTurnsSpec)

/-- ITS FALSE NEIGHBOUR: 'it returns false'. Refute it at one input. -/
def outlineTurnsWrong : ChangeSpec := { name := "outlineTurns", fn := fun _ => fun
  | [d1, d2, d3] => { results := [.lit (.bool false)], args := [d1, d2, d3] }
  | _ => none }
def OutlineTurnsWrongFalsely : Prop := outlineTurnsRow.holds Try.pinned (OpenSpec.ofChange outlineTurnsWrong)

/-- 'fleuronlaw03.OutlineBoxes': WHATEVER THE INPUT: true; the input reads as it did. -/
def outlineBoxesSpec : ChangeSpec := { name := "outlineBoxes", fn := fun _ => fun
  | [d1, d2, d3] => { results := [.lit (.bool true)], args := [d1, d2, d3] }
  | _ => none }
def outlineBoxesRow : OpenClaim := { program := "ytbmklpcheopgoaa", sum := "fd741c9ed1c698d654572319ef8f451b1986a0f6c0838b09901ba0a4f6879a2a", func := "fleuron/fleuronlaw03.OutlineBoxes", spec := "outlineBoxes", unfollowed := true, recurses := true, plainKeys := false, apart := false }
def OutlineBoxesSaid : Prop := outlineBoxesRow.holds Try.pinned (OpenSpec.ofChange outlineBoxesSpec)

/-- ITS FALSE NEIGHBOUR: 'it returns false'. Refute it at one input. -/
def outlineBoxesWrong : ChangeSpec := { name := "outlineBoxes", fn := fun _ => fun
  | [d1, d2, d3] => { results := [.lit (.bool false)], args := [d1, d2, d3] }
  | _ => none }
def OutlineBoxesWrongFalsely : Prop := outlineBoxesRow.holds Try.pinned (OpenSpec.ofChange outlineBoxesWrong)

/-- 'fleuronlaw03.OutlineShifts': WHATEVER THE INPUT: true; the input reads as it did. -/
def outlineShiftsSpec : ChangeSpec := { name := "outlineShifts", fn := fun _ => fun
  | [d1, d2, d3] => { results := [.lit (.bool true)], args := [d1, d2, d3] }
  | _ => none }
def outlineShiftsRow : OpenClaim := { program := "ytbmklpcheopgoaa", sum := "fd741c9ed1c698d654572319ef8f451b1986a0f6c0838b09901ba0a4f6879a2a", func := "fleuron/fleuronlaw03.OutlineShifts", spec := "outlineShifts", unfollowed := true, recurses := true, plainKeys := false, apart := false }
def OutlineShiftsSaid : Prop := outlineShiftsRow.holds Try.pinned (OpenSpec.ofChange outlineShiftsSpec)

/-- ITS FALSE NEIGHBOUR: 'it returns false'. Refute it at one input. -/
def outlineShiftsWrong : ChangeSpec := { name := "outlineShifts", fn := fun _ => fun
  | [d1, d2, d3] => { results := [.lit (.bool false)], args := [d1, d2, d3] }
  | _ => none }
def OutlineShiftsWrongFalsely : Prop := outlineShiftsRow.holds Try.pinned (OpenSpec.ofChange outlineShiftsWrong)

/-- 'fleuronlaw03.OutlineWithin': WHATEVER THE INPUT: true; the input reads as it did. -/
def outlineWithinSpec : ChangeSpec := { name := "outlineWithin", fn := fun _ => fun
  | [d] => { results := [.lit (.bool true)], args := [d] }
  | _ => none }
def outlineWithinRow : OpenClaim := { program := "ytbmklpcheopgoaa", sum := "fd741c9ed1c698d654572319ef8f451b1986a0f6c0838b09901ba0a4f6879a2a", func := "fleuron/fleuronlaw03.OutlineWithin", spec := "outlineWithin", unfollowed := true, recurses := true, plainKeys := false, apart := false }
def OutlineWithinSaid : Prop := outlineWithinRow.holds Try.pinned (OpenSpec.ofChange outlineWithinSpec)

/-- ITS FALSE NEIGHBOUR: 'it returns false'. Refute it at one input. -/
def outlineWithinWrong : ChangeSpec := { name := "outlineWithin", fn := fun _ => fun
  | [d] => { results := [.lit (.bool false)], args := [d] }
  | _ => none }
def OutlineWithinWrongFalsely : Prop := outlineWithinRow.holds Try.pinned (OpenSpec.ofChange outlineWithinWrong)

/-- 'fleuronlaw03.OutlineBack': WHATEVER THE INPUT: true; the input reads as it did. -/
def outlineBackSpec : ChangeSpec := { name := "outlineBack", fn := fun _ => fun
  | [d] => { results := [.lit (.bool true)], args := [d] }
  | _ => none }
def outlineBackRow : OpenClaim := { program := "ytbmklpcheopgoaa", sum := "fd741c9ed1c698d654572319ef8f451b1986a0f6c0838b09901ba0a4f6879a2a", func := "fleuron/fleuronlaw03.OutlineBack", spec := "outlineBack", unfollowed := true, recurses := true, plainKeys := false, apart := false }
def OutlineBackSaid : Prop := outlineBackRow.holds Try.pinned (OpenSpec.ofChange outlineBackSpec)

/-- ITS FALSE NEIGHBOUR: 'it returns false'. Refute it at one input. -/
def outlineBackWrong : ChangeSpec := { name := "outlineBack", fn := fun _ => fun
  | [d] => { results := [.lit (.bool false)], args := [d] }
  | _ => none }
def OutlineBackWrongFalsely : Prop := outlineBackRow.holds Try.pinned (OpenSpec.ofChange outlineBackWrong)

/-- 'fleuronlaw03.OutlineParts': WHATEVER THE INPUT: true; the input reads as it did. -/
def outlinePartsSpec : ChangeSpec := { name := "outlineParts", fn := fun _ => fun
  | [d] => { results := [.lit (.bool true)], args := [d] }
  | _ => none }
def outlinePartsRow : OpenClaim := { program := "ytbmklpcheopgoaa", sum := "fd741c9ed1c698d654572319ef8f451b1986a0f6c0838b09901ba0a4f6879a2a", func := "fleuron/fleuronlaw03.OutlineParts", spec := "outlineParts", unfollowed := true, recurses := true, plainKeys := false, apart := false }
def OutlinePartsSaid : Prop := outlinePartsRow.holds Try.pinned (OpenSpec.ofChange outlinePartsSpec)

/-- ITS FALSE NEIGHBOUR: 'it returns false'. Refute it at one input. -/
def outlinePartsWrong : ChangeSpec := { name := "outlineParts", fn := fun _ => fun
  | [d] => { results := [.lit (.bool false)], args := [d] }
  | _ => none }
def OutlinePartsWrongFalsely : Prop := outlinePartsRow.holds Try.pinned (OpenSpec.ofChange outlinePartsWrong)

/-- 'fleuronlaw19.BoundStraight': WHATEVER THE INPUT: true; the input reads as it did. -/
def boundStraightSpec : ChangeSpec := { name := "boundStraight", fn := fun _ => fun
  | [d] => { results := [.lit (.bool true)], args := [d] }
  | _ => none }
def boundStraightRow : OpenClaim := { program := "ytbmklpcheopgoaa", sum := "fd741c9ed1c698d654572319ef8f451b1986a0f6c0838b09901ba0a4f6879a2a", func := "fleuron/fleuronlaw19.BoundStraight", spec := "boundStraight", unfollowed := true, recurses := true, plainKeys := false, apart := false }
def BoundStraightSaid : Prop := boundStraightRow.holds Try.pinned (OpenSpec.ofChange boundStraightSpec)

/-- ITS FALSE NEIGHBOUR: 'it returns false'. Refute it at one input. -/
def boundStraightWrong : ChangeSpec := { name := "boundStraight", fn := fun _ => fun
  | [d] => { results := [.lit (.bool false)], args := [d] }
  | _ => none }
def BoundStraightWrongFalsely : Prop := boundStraightRow.holds Try.pinned (OpenSpec.ofChange boundStraightWrong)

/-- 'fleuronlaw19.BoundBack': WHATEVER THE INPUT: true; the input reads as it did. -/
def boundBackSpec : ChangeSpec := { name := "boundBack", fn := fun _ => fun
  | [d1, d2, d3] => { results := [.lit (.bool true)], args := [d1, d2, d3] }
  | _ => none }
def boundBackRow : OpenClaim := { program := "ytbmklpcheopgoaa", sum := "fd741c9ed1c698d654572319ef8f451b1986a0f6c0838b09901ba0a4f6879a2a", func := "fleuron/fleuronlaw19.BoundBack", spec := "boundBack", unfollowed := true, recurses := true, plainKeys := false, apart := false }
def BoundBackSaid : Prop := boundBackRow.holds Try.pinned (OpenSpec.ofChange boundBackSpec)

/-- ITS FALSE NEIGHBOUR: 'it returns false'. Refute it at one input. -/
def boundBackWrong : ChangeSpec := { name := "boundBack", fn := fun _ => fun
  | [d1, d2, d3] => { results := [.lit (.bool false)], args := [d1, d2, d3] }
  | _ => none }
def BoundBackWrongFalsely : Prop := boundBackRow.holds Try.pinned (OpenSpec.ofChange boundBackWrong)

/-- 'fleuronlaw19.BoundDeep': WHATEVER THE INPUT: true; the input reads as it did. -/
def boundDeepSpec : ChangeSpec := { name := "boundDeep", fn := fun _ => fun
  | [d1, d2] => { results := [.lit (.bool true)], args := [d1, d2] }
  | _ => none }
def boundDeepRow : OpenClaim := { program := "ytbmklpcheopgoaa", sum := "fd741c9ed1c698d654572319ef8f451b1986a0f6c0838b09901ba0a4f6879a2a", func := "fleuron/fleuronlaw19.BoundDeep", spec := "boundDeep", unfollowed := true, recurses := true, plainKeys := false, apart := false }
def BoundDeepSaid : Prop := boundDeepRow.holds Try.pinned (OpenSpec.ofChange boundDeepSpec)

/-- ITS FALSE NEIGHBOUR: 'it returns false'. Refute it at one input. -/
def boundDeepWrong : ChangeSpec := { name := "boundDeep", fn := fun _ => fun
  | [d1, d2] => { results := [.lit (.bool false)], args := [d1, d2] }
  | _ => none }
def BoundDeepWrongFalsely : Prop := boundDeepRow.holds Try.pinned (OpenSpec.ofChange boundDeepWrong)

/- THE SECOND FORM. 'bulk': how many values and letters a reading holds, each counted each time it is reached (what is shared counts as often as it is met; a slice's spare places count too). A statement '..UptoSaid' is the law's where the arguments, and the package variables that the reading takes, are together of bulk at most 1048576: NARROWER than '..Said'. Prove '..Said' where nothing that the law and all that it calls make is longer than what came in: it says more and counts as full. Else prove '..UptoSaid'. A law counts once. -/
mutual
def uptoBulk {H : Type} : DataW H → Nat
  | .lit (.string bytes) => bytes.length + 1
  | .lit _ => 1
  | .nil => 1
  | .ptr d => uptoBulk d + 1
  | .slice elems spare => uptoBulkAll elems + uptoBulkAll spare + 1
  | .agg parts => uptoBulkAll parts + 1
  | .iface _ d => uptoBulk d + 1
  | .map entries => uptoBulkEntries entries + 1
  | .held _ => 1
def uptoBulkAll {H : Type} : List (DataW H) → Nat
  | [] => 0
  | d :: r => uptoBulk d + uptoBulkAll r
def uptoBulkEntries {H : Type} : List (Lit × DataW H) → Nat
  | [] => 0
  | x :: r => uptoBulkEntry x + uptoBulkEntries r
def uptoBulkEntry {H : Type} : Lit × DataW H → Nat
  | (.string bytes, d) => bytes.length + uptoBulk d + 1
  | (_, d) => uptoBulk d + 1
 end
def uptoSmall : (H : Type) → List (DataW H) → Bool := fun _ ds => decide (uptoBulkAll ds ≤ 1048576)
def OpenSpec.upto (s : _root_.Go.ChangeSpec) : _root_.Go.OpenSpec := { _root_.Go.OpenSpec.ofChange s with cond := some uptoSmall }

/-- 'fleuronlaw03.OutlineTells', WHERE WHAT IT READS IS OF BULK AT MOST 1048576: true; the input reads as it did. -/
def outlineTellsUptoRow : OpenClaim := { program := "ytbmklpcheopgoaa", sum := "fd741c9ed1c698d654572319ef8f451b1986a0f6c0838b09901ba0a4f6879a2a", func := "fleuron/fleuronlaw03.OutlineTells", spec := "outlineTells", unfollowed := true, recurses := true, plainKeys := false, apart := false, narrowed := true }
def OutlineTellsUptoSaid : Prop := outlineTellsUptoRow.holds Try.pinned (OpenSpec.upto outlineTellsSpec)

/-- 'fleuronlaw03.OutlineMakes', WHERE WHAT IT READS IS OF BULK AT MOST 1048576: true; the input reads as it did. -/
def outlineMakesUptoRow : OpenClaim := { program := "ytbmklpcheopgoaa", sum := "fd741c9ed1c698d654572319ef8f451b1986a0f6c0838b09901ba0a4f6879a2a", func := "fleuron/fleuronlaw03.OutlineMakes", spec := "outlineMakes", unfollowed := true, recurses := true, plainKeys := false, apart := false, narrowed := true }
def OutlineMakesUptoSaid : Prop := outlineMakesUptoRow.holds Try.pinned (OpenSpec.upto outlineMakesSpec)

/-- 'fleuronlaw03.OutlineLines', WHERE WHAT IT READS IS OF BULK AT MOST 1048576: true; the input reads as it did. -/
def outlineLinesUptoRow : OpenClaim := { program := "ytbmklpcheopgoaa", sum := "fd741c9ed1c698d654572319ef8f451b1986a0f6c0838b09901ba0a4f6879a2a", func := "fleuron/fleuronlaw03.OutlineLines", spec := "outlineLines", unfollowed := true, recurses := true, plainKeys := false, apart := false, narrowed := true }
def OutlineLinesUptoSaid : Prop := outlineLinesUptoRow.holds Try.pinned (OpenSpec.upto outlineLinesSpec)

/-- 'fleuronlaw03.OutlineTurns', WHERE WHAT IT READS IS OF BULK AT MOST 1048576: true; the input reads as it did. -/
def outlineTurnsUptoRow : OpenClaim := { program := "ytbmklpcheopgoaa", sum := "fd741c9ed1c698d654572319ef8f451b1986a0f6c0838b09901ba0a4f6879a2a", func := "fleuron/fleuronlaw03.OutlineTurns", spec := "outlineTurns", unfollowed := true, recurses := true, plainKeys := false, apart := false, narrowed := true }
def OutlineTurnsUptoSaid : Prop := outlineTurnsUptoRow.holds Try.pinned (OpenSpec.upto outlineTurnsSpec)

/-- 'fleuronlaw03.OutlineBoxes', WHERE WHAT IT READS IS OF BULK AT MOST 1048576: true; the input reads as it did. -/
def outlineBoxesUptoRow : OpenClaim := { program := "ytbmklpcheopgoaa", sum := "fd741c9ed1c698d654572319ef8f451b1986a0f6c0838b09901ba0a4f6879a2a", func := "fleuron/fleuronlaw03.OutlineBoxes", spec := "outlineBoxes", unfollowed := true, recurses := true, plainKeys := false, apart := false, narrowed := true }
def OutlineBoxesUptoSaid : Prop := outlineBoxesUptoRow.holds Try.pinned (OpenSpec.upto outlineBoxesSpec)

/-- 'fleuronlaw03.OutlineShifts', WHERE WHAT IT READS IS OF BULK AT MOST 1048576: true; the input reads as it did. -/
def outlineShiftsUptoRow : OpenClaim := { program := "ytbmklpcheopgoaa", sum := "fd741c9ed1c698d654572319ef8f451b1986a0f6c0838b09901ba0a4f6879a2a", func := "fleuron/fleuronlaw03.OutlineShifts", spec := "outlineShifts", unfollowed := true, recurses := true, plainKeys := false, apart := false, narrowed := true }
def OutlineShiftsUptoSaid : Prop := outlineShiftsUptoRow.holds Try.pinned (OpenSpec.upto outlineShiftsSpec)

/-- 'fleuronlaw03.OutlineWithin', WHERE WHAT IT READS IS OF BULK AT MOST 1048576: true; the input reads as it did. -/
def outlineWithinUptoRow : OpenClaim := { program := "ytbmklpcheopgoaa", sum := "fd741c9ed1c698d654572319ef8f451b1986a0f6c0838b09901ba0a4f6879a2a", func := "fleuron/fleuronlaw03.OutlineWithin", spec := "outlineWithin", unfollowed := true, recurses := true, plainKeys := false, apart := false, narrowed := true }
def OutlineWithinUptoSaid : Prop := outlineWithinUptoRow.holds Try.pinned (OpenSpec.upto outlineWithinSpec)

/-- 'fleuronlaw03.OutlineBack', WHERE WHAT IT READS IS OF BULK AT MOST 1048576: true; the input reads as it did. -/
def outlineBackUptoRow : OpenClaim := { program := "ytbmklpcheopgoaa", sum := "fd741c9ed1c698d654572319ef8f451b1986a0f6c0838b09901ba0a4f6879a2a", func := "fleuron/fleuronlaw03.OutlineBack", spec := "outlineBack", unfollowed := true, recurses := true, plainKeys := false, apart := false, narrowed := true }
def OutlineBackUptoSaid : Prop := outlineBackUptoRow.holds Try.pinned (OpenSpec.upto outlineBackSpec)

/-- 'fleuronlaw03.OutlineParts', WHERE WHAT IT READS IS OF BULK AT MOST 1048576: true; the input reads as it did. -/
def outlinePartsUptoRow : OpenClaim := { program := "ytbmklpcheopgoaa", sum := "fd741c9ed1c698d654572319ef8f451b1986a0f6c0838b09901ba0a4f6879a2a", func := "fleuron/fleuronlaw03.OutlineParts", spec := "outlineParts", unfollowed := true, recurses := true, plainKeys := false, apart := false, narrowed := true }
def OutlinePartsUptoSaid : Prop := outlinePartsUptoRow.holds Try.pinned (OpenSpec.upto outlinePartsSpec)

/-- 'fleuronlaw19.BoundStraight', WHERE WHAT IT READS IS OF BULK AT MOST 1048576: true; the input reads as it did. -/
def boundStraightUptoRow : OpenClaim := { program := "ytbmklpcheopgoaa", sum := "fd741c9ed1c698d654572319ef8f451b1986a0f6c0838b09901ba0a4f6879a2a", func := "fleuron/fleuronlaw19.BoundStraight", spec := "boundStraight", unfollowed := true, recurses := true, plainKeys := false, apart := false, narrowed := true }
def BoundStraightUptoSaid : Prop := boundStraightUptoRow.holds Try.pinned (OpenSpec.upto boundStraightSpec)

/-- 'fleuronlaw19.BoundBack', WHERE WHAT IT READS IS OF BULK AT MOST 1048576: true; the input reads as it did. -/
def boundBackUptoRow : OpenClaim := { program := "ytbmklpcheopgoaa", sum := "fd741c9ed1c698d654572319ef8f451b1986a0f6c0838b09901ba0a4f6879a2a", func := "fleuron/fleuronlaw19.BoundBack", spec := "boundBack", unfollowed := true, recurses := true, plainKeys := false, apart := false, narrowed := true }
def BoundBackUptoSaid : Prop := boundBackUptoRow.holds Try.pinned (OpenSpec.upto boundBackSpec)

/-- 'fleuronlaw19.BoundDeep', WHERE WHAT IT READS IS OF BULK AT MOST 1048576: true; the input reads as it did. -/
def boundDeepUptoRow : OpenClaim := { program := "ytbmklpcheopgoaa", sum := "fd741c9ed1c698d654572319ef8f451b1986a0f6c0838b09901ba0a4f6879a2a", func := "fleuron/fleuronlaw19.BoundDeep", spec := "boundDeep", unfollowed := true, recurses := true, plainKeys := false, apart := false, narrowed := true }
def BoundDeepUptoSaid : Prop := boundDeepUptoRow.holds Try.pinned (OpenSpec.upto boundDeepSpec)

end Rows
end Go.Proofs.Ytbmklpcheopgoaa
