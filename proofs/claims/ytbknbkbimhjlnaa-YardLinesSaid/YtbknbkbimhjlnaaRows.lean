/-
  No cell of these rows narrows 'for every input' (looked for: loops, veiled, ifaces, maps, wideKeys, modest, calm, conditions, laid).
  DERIVED. THE GIVEN ROWS OF THIS SEAT. 5 by the template 'for every input the law returns true; each argument reads behind the call as it read before'; 0 by the template 'total and deterministic' (their statements: YtbknbkbimhjlnaaTotals.lean).
  GIVEN WITH THE SEED: the statements are not yours to turn. If you find one false, say at which input.
  Laid BY PROGRAM, IN A SANDBOX (cutbox-rows.mjs): the forced cells as the released guide's own fill.sh prints them over the translation dc1549ebcaea8fce… (all of the seat's roots in one cut). By AI agents, Wed Nov 11 2026. No macro, syntax, notation, axiom, sorry.
-/
import Derived.Test.YtbknbkbimhjlnaaChecked
import GoSem.Claim
import GoSem.ClaimJoined
import GoSem.ClaimMapViews
import Derived.JoinedTies
import Derived.KernelRfl
namespace Go.Proofs.Ytbknbkbimhjlnaa
/- THE CELL 'sum', in the pinned program and in every row, IS THE sha256 OF THE DUMP (.gsa) THAT YtbknbkbimhjlnaaProg.lean LOADS. Nothing in Lean hashes anything: it is a label: what it is worth is what the hold of that sum in a sandbox is worth. -/
noncomputable def Try.pinned : Pinned := { name := "ytbknbkbimhjlnaa", sum := "dc1549ebcaea8fce5af1b28129642eb5853a26a7b6c06f56c743fb67b0af5b2f", checked := Try.checked }
namespace Rows
def none {H : Type} : Left H := { results := [], args := [] }

/-- 'bivouaclaw20.YardWorks': WHATEVER THE INPUT: true; the input reads as it did. -/
def yardWorksSpec : ChangeSpec := { name := "yardWorks", fn := fun _ => fun
  | [d1, d2, d3] => { results := [.lit (.bool true)], args := [d1, d2, d3] }
  | _ => none }
def yardWorksRow : OpenClaim := { program := "ytbknbkbimhjlnaa", sum := "dc1549ebcaea8fce5af1b28129642eb5853a26a7b6c06f56c743fb67b0af5b2f", func := "bivouac/bivouaclaw20.YardWorks", spec := "yardWorks", apart := false }
def YardWorksSaid : Prop := yardWorksRow.holds Try.pinned (OpenSpec.ofChange yardWorksSpec)

/-- ITS FALSE NEIGHBOUR: 'it returns false'. Refute it at one input. -/
def yardWorksWrong : ChangeSpec := { name := "yardWorks", fn := fun _ => fun
  | [d1, d2, d3] => { results := [.lit (.bool false)], args := [d1, d2, d3] }
  | _ => none }
def YardWorksWrongFalsely : Prop := yardWorksRow.holds Try.pinned (OpenSpec.ofChange yardWorksWrong)

/-- 'bivouaclaw20.YardMends': WHATEVER THE INPUT: true; the input reads as it did. -/
def yardMendsSpec : ChangeSpec := { name := "yardMends", fn := fun _ => fun
  | [d1, d2, d3] => { results := [.lit (.bool true)], args := [d1, d2, d3] }
  | _ => none }
def yardMendsRow : OpenClaim := { program := "ytbknbkbimhjlnaa", sum := "dc1549ebcaea8fce5af1b28129642eb5853a26a7b6c06f56c743fb67b0af5b2f", func := "bivouac/bivouaclaw20.YardMends", spec := "yardMends", apart := false }
def YardMendsSaid : Prop := yardMendsRow.holds Try.pinned (OpenSpec.ofChange yardMendsSpec)

/-- ITS FALSE NEIGHBOUR: 'it returns false'. Refute it at one input. -/
def yardMendsWrong : ChangeSpec := { name := "yardMends", fn := fun _ => fun
  | [d1, d2, d3] => { results := [.lit (.bool false)], args := [d1, d2, d3] }
  | _ => none }
def YardMendsWrongFalsely : Prop := yardMendsRow.holds Try.pinned (OpenSpec.ofChange yardMendsWrong)

/-- 'bivouaclaw20.YardTakes': WHATEVER THE INPUT: true; the input reads as it did. -/
def yardTakesSpec : ChangeSpec := { name := "yardTakes", fn := fun _ => fun
  | [d1, d2] => { results := [.lit (.bool true)], args := [d1, d2] }
  | _ => none }
def yardTakesRow : OpenClaim := { program := "ytbknbkbimhjlnaa", sum := "dc1549ebcaea8fce5af1b28129642eb5853a26a7b6c06f56c743fb67b0af5b2f", func := "bivouac/bivouaclaw20.YardTakes", spec := "yardTakes", apart := false }
def YardTakesSaid : Prop := yardTakesRow.holds Try.pinned (OpenSpec.ofChange yardTakesSpec)

/-- ITS FALSE NEIGHBOUR: 'it returns false'. Refute it at one input. -/
def yardTakesWrong : ChangeSpec := { name := "yardTakes", fn := fun _ => fun
  | [d1, d2] => { results := [.lit (.bool false)], args := [d1, d2] }
  | _ => none }
def YardTakesWrongFalsely : Prop := yardTakesRow.holds Try.pinned (OpenSpec.ofChange yardTakesWrong)

/-- 'bivouaclaw20.YardCosts': WHATEVER THE INPUT: true; the input reads as it did. -/
def yardCostsSpec : ChangeSpec := { name := "yardCosts", fn := fun _ => fun
  | [d1, d2] => { results := [.lit (.bool true)], args := [d1, d2] }
  | _ => none }
def yardCostsRow : OpenClaim := { program := "ytbknbkbimhjlnaa", sum := "dc1549ebcaea8fce5af1b28129642eb5853a26a7b6c06f56c743fb67b0af5b2f", func := "bivouac/bivouaclaw20.YardCosts", spec := "yardCosts", apart := false }
def YardCostsSaid : Prop := yardCostsRow.holds Try.pinned (OpenSpec.ofChange yardCostsSpec)

/-- ITS FALSE NEIGHBOUR: 'it returns false'. Refute it at one input. -/
def yardCostsWrong : ChangeSpec := { name := "yardCosts", fn := fun _ => fun
  | [d1, d2] => { results := [.lit (.bool false)], args := [d1, d2] }
  | _ => none }
def YardCostsWrongFalsely : Prop := yardCostsRow.holds Try.pinned (OpenSpec.ofChange yardCostsWrong)

/-- 'bivouaclaw20.YardLines': WHATEVER THE INPUT: true; the input reads as it did. -/
def yardLinesSpec : ChangeSpec := { name := "yardLines", fn := fun _ => fun
  | [d1, d2] => { results := [.lit (.bool true)], args := [d1, d2] }
  | _ => none }
def yardLinesRow : OpenClaim := { program := "ytbknbkbimhjlnaa", sum := "dc1549ebcaea8fce5af1b28129642eb5853a26a7b6c06f56c743fb67b0af5b2f", func := "bivouac/bivouaclaw20.YardLines", spec := "yardLines", apart := false }
def YardLinesSaid : Prop := yardLinesRow.holds Try.pinned (OpenSpec.ofChange yardLinesSpec)

/-- ITS FALSE NEIGHBOUR: 'it returns false'. Refute it at one input. -/
def yardLinesWrong : ChangeSpec := { name := "yardLines", fn := fun _ => fun
  | [d1, d2] => { results := [.lit (.bool false)], args := [d1, d2] }
  | _ => none }
def YardLinesWrongFalsely : Prop := yardLinesRow.holds Try.pinned (OpenSpec.ofChange yardLinesWrong)

/- THE SECOND FORM. 'bulk': how many values and letters a reading holds, each counted each time it is reached (what is shared counts as often as it is met; a slice's spare places count too). A statement '..UptoSaid' is the law's where the arguments, and the package variables that the reading takes, are together of bulk at most 1048576: NARROWER than '..Said'. Prove '..Said' where nothing that the law and all that it calls make is longer than what came in: it says more and counts as full. Else prove '..UptoSaid'. A law counts once. -/
mutual
def uptoBulk {H : Type} : DataW H → Nat
  | .lit (.string bytes) => bytes.length + 1
  | .lit _ => 1
  | .nil => 1
  | .ptr d => uptoBulk d + 1
  | .slice elems spare => uptoBulkAll elems + uptoBulkAll spare + 1
  | .agg parts => uptoBulkAll parts + 1
  | .iface _ d => uptoBulk d + 1
  | .map entries => uptoBulkEntries entries + 1
  | .held _ => 1
def uptoBulkAll {H : Type} : List (DataW H) → Nat
  | [] => 0
  | d :: r => uptoBulk d + uptoBulkAll r
def uptoBulkEntries {H : Type} : List (Lit × DataW H) → Nat
  | [] => 0
  | x :: r => uptoBulkEntry x + uptoBulkEntries r
def uptoBulkEntry {H : Type} : Lit × DataW H → Nat
  | (.string bytes, d) => bytes.length + uptoBulk d + 1
  | (_, d) => uptoBulk d + 1
 end
def uptoSmall : (H : Type) → List (DataW H) → Bool := fun _ ds => decide (uptoBulkAll ds ≤ 1048576)
def OpenSpec.upto (s : _root_.Go.ChangeSpec) : _root_.Go.OpenSpec := { _root_.Go.OpenSpec.ofChange s with cond := some uptoSmall }

/-- 'bivouaclaw20.YardWorks', WHERE WHAT IT READS IS OF BULK AT MOST 1048576: true; the input reads as it did. -/
def yardWorksUptoRow : OpenClaim := { program := "ytbknbkbimhjlnaa", sum := "dc1549ebcaea8fce5af1b28129642eb5853a26a7b6c06f56c743fb67b0af5b2f", func := "bivouac/bivouaclaw20.YardWorks", spec := "yardWorks", apart := false, narrowed := true }
def YardWorksUptoSaid : Prop := yardWorksUptoRow.holds Try.pinned (OpenSpec.upto yardWorksSpec)

/-- 'bivouaclaw20.YardMends', WHERE WHAT IT READS IS OF BULK AT MOST 1048576: true; the input reads as it did. -/
def yardMendsUptoRow : OpenClaim := { program := "ytbknbkbimhjlnaa", sum := "dc1549ebcaea8fce5af1b28129642eb5853a26a7b6c06f56c743fb67b0af5b2f", func := "bivouac/bivouaclaw20.YardMends", spec := "yardMends", apart := false, narrowed := true }
def YardMendsUptoSaid : Prop := yardMendsUptoRow.holds Try.pinned (OpenSpec.upto yardMendsSpec)

/-- 'bivouaclaw20.YardTakes', WHERE WHAT IT READS IS OF BULK AT MOST 1048576: true; the input reads as it did. -/
def yardTakesUptoRow : OpenClaim := { program := "ytbknbkbimhjlnaa", sum := "dc1549ebcaea8fce5af1b28129642eb5853a26a7b6c06f56c743fb67b0af5b2f", func := "bivouac/bivouaclaw20.YardTakes", spec := "yardTakes", apart := false, narrowed := true }
def YardTakesUptoSaid : Prop := yardTakesUptoRow.holds Try.pinned (OpenSpec.upto yardTakesSpec)

/-- 'bivouaclaw20.YardCosts', WHERE WHAT IT READS IS OF BULK AT MOST 1048576: true; the input reads as it did. -/
def yardCostsUptoRow : OpenClaim := { program := "ytbknbkbimhjlnaa", sum := "dc1549ebcaea8fce5af1b28129642eb5853a26a7b6c06f56c743fb67b0af5b2f", func := "bivouac/bivouaclaw20.YardCosts", spec := "yardCosts", apart := false, narrowed := true }
def YardCostsUptoSaid : Prop := yardCostsUptoRow.holds Try.pinned (OpenSpec.upto yardCostsSpec)

/-- 'bivouaclaw20.YardLines', WHERE WHAT IT READS IS OF BULK AT MOST 1048576: true; the input reads as it did. -/
def yardLinesUptoRow : OpenClaim := { program := "ytbknbkbimhjlnaa", sum := "dc1549ebcaea8fce5af1b28129642eb5853a26a7b6c06f56c743fb67b0af5b2f", func := "bivouac/bivouaclaw20.YardLines", spec := "yardLines", apart := false, narrowed := true }
def YardLinesUptoSaid : Prop := yardLinesUptoRow.holds Try.pinned (OpenSpec.upto yardLinesSpec)

end Rows
end Go.Proofs.Ytbknbkbimhjlnaa
