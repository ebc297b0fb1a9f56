/-
  No cell of these rows narrows 'for every input' (looked for: loops, veiled, ifaces, maps, wideKeys, modest, calm, conditions, laid).
  DERIVED. THE GIVEN ROWS OF THIS SEAT. 4 by the template 'for every input the law returns true; each argument reads behind the call as it read before'; 0 by the template 'total and deterministic' (their statements: YtgkkldhgopdphaaTotals.lean).
  GIVEN WITH THE SEED: the statements are not yours to turn. If you find one false, say at which input.
  Laid BY PROGRAM, IN A SANDBOX (cutbox-rows.mjs): the forced cells as the released guide's own fill.sh prints them over the translation bc2d3944e4653d60… (all of the seat's roots in one cut). By AI agents, Wed Nov 11 2026. No macro, syntax, notation, axiom, sorry.
-/
import Derived.Test.YtgkkldhgopdphaaChecked
import GoSem.Claim
import GoSem.ClaimJoined
import GoSem.ClaimMapViews
import Derived.JoinedTies
import Derived.KernelRfl
namespace Go.Proofs.Ytgkkldhgopdphaa
/- THE CELL 'sum', in the pinned program and in every row, IS THE sha256 OF THE DUMP (.gsa) THAT YtgkkldhgopdphaaProg.lean LOADS. Nothing in Lean hashes anything: it is a label: what it is worth is what the hold of that sum in a sandbox is worth. -/
noncomputable def Try.pinned : Pinned := { name := "ytgkkldhgopdphaa", sum := "bc2d3944e4653d604d15f55b65b60207fb065c07e4b0022c695f55a2e263382d", checked := Try.checked }
namespace Rows
def none {H : Type} : Left H := { results := [], args := [] }

/-- 'bivouaclaw18.BlastHurts': WHATEVER THE INPUT: true; the input reads as it did. -/
def blastHurtsSpec : ChangeSpec := { name := "blastHurts", fn := fun _ => fun
  | [d1, d2, d3] => { results := [.lit (.bool true)], args := [d1, d2, d3] }
  | _ => none }
def blastHurtsRow : OpenClaim := { program := "ytgkkldhgopdphaa", sum := "bc2d3944e4653d604d15f55b65b60207fb065c07e4b0022c695f55a2e263382d", func := "bivouac/bivouaclaw18.BlastHurts", spec := "blastHurts", unfollowed := true, recurses := true, apart := false }
def BlastHurtsSaid : Prop := blastHurtsRow.holds Try.pinned (OpenSpec.ofChange blastHurtsSpec)

/-- ITS FALSE NEIGHBOUR: 'it returns false'. Refute it at one input. -/
def blastHurtsWrong : ChangeSpec := { name := "blastHurts", fn := fun _ => fun
  | [d1, d2, d3] => { results := [.lit (.bool false)], args := [d1, d2, d3] }
  | _ => none }
def BlastHurtsWrongFalsely : Prop := blastHurtsRow.holds Try.pinned (OpenSpec.ofChange blastHurtsWrong)

/-- 'bivouaclaw18.BlastStrikes': WHATEVER THE INPUT: true; the input reads as it did. -/
def blastStrikesSpec : ChangeSpec := { name := "blastStrikes", fn := fun _ => fun
  | [d1, d2] => { results := [.lit (.bool true)], args := [d1, d2] }
  | _ => none }
def blastStrikesRow : OpenClaim := { program := "ytgkkldhgopdphaa", sum := "bc2d3944e4653d604d15f55b65b60207fb065c07e4b0022c695f55a2e263382d", func := "bivouac/bivouaclaw18.BlastStrikes", spec := "blastStrikes", unfollowed := true, recurses := true, apart := false }
def BlastStrikesSaid : Prop := blastStrikesRow.holds Try.pinned (OpenSpec.ofChange blastStrikesSpec)

/-- ITS FALSE NEIGHBOUR: 'it returns false'. Refute it at one input. -/
def blastStrikesWrong : ChangeSpec := { name := "blastStrikes", fn := fun _ => fun
  | [d1, d2] => { results := [.lit (.bool false)], args := [d1, d2] }
  | _ => none }
def BlastStrikesWrongFalsely : Prop := blastStrikesRow.holds Try.pinned (OpenSpec.ofChange blastStrikesWrong)

/-- 'bivouaclaw18.BlastOrders': WHATEVER THE INPUT: true; the input reads as it did. -/
def blastOrdersSpec : ChangeSpec := { name := "blastOrders", fn := fun _ => fun
  | [d1, d2] => { results := [.lit (.bool true)], args := [d1, d2] }
  | _ => none }
def blastOrdersRow : OpenClaim := { program := "ytgkkldhgopdphaa", sum := "bc2d3944e4653d604d15f55b65b60207fb065c07e4b0022c695f55a2e263382d", func := "bivouac/bivouaclaw18.BlastOrders", spec := "blastOrders", unfollowed := true, recurses := true, apart := false }
def BlastOrdersSaid : Prop := blastOrdersRow.holds Try.pinned (OpenSpec.ofChange blastOrdersSpec)

/-- ITS FALSE NEIGHBOUR: 'it returns false'. Refute it at one input. -/
def blastOrdersWrong : ChangeSpec := { name := "blastOrders", fn := fun _ => fun
  | [d1, d2] => { results := [.lit (.bool false)], args := [d1, d2] }
  | _ => none }
def BlastOrdersWrongFalsely : Prop := blastOrdersRow.holds Try.pinned (OpenSpec.ofChange blastOrdersWrong)

/-- 'bivouaclaw18.BlastFarther': WHATEVER THE INPUT: true; the input reads as it did. -/
def blastFartherSpec : ChangeSpec := { name := "blastFarther", fn := fun _ => fun
  | [d1, d2, d3] => { results := [.lit (.bool true)], args := [d1, d2, d3] }
  | _ => none }
def blastFartherRow : OpenClaim := { program := "ytgkkldhgopdphaa", sum := "bc2d3944e4653d604d15f55b65b60207fb065c07e4b0022c695f55a2e263382d", func := "bivouac/bivouaclaw18.BlastFarther", spec := "blastFarther", unfollowed := true, recurses := true, apart := false }
def BlastFartherSaid : Prop := blastFartherRow.holds Try.pinned (OpenSpec.ofChange blastFartherSpec)

/-- ITS FALSE NEIGHBOUR: 'it returns false'. Refute it at one input. -/
def blastFartherWrong : ChangeSpec := { name := "blastFarther", fn := fun _ => fun
  | [d1, d2, d3] => { results := [.lit (.bool false)], args := [d1, d2, d3] }
  | _ => none }
def BlastFartherWrongFalsely : Prop := blastFartherRow.holds Try.pinned (OpenSpec.ofChange blastFartherWrong)

/- THE SECOND FORM. 'bulk': how many values and letters a reading holds, each counted each time it is reached (what is shared counts as often as it is met; a slice's spare places count too). A statement '..UptoSaid' is the law's where the arguments, and the package variables that the reading takes, are together of bulk at most 1048576: NARROWER than '..Said'. Prove '..Said' where nothing that the law and all that it calls make is longer than what came in: it says more and counts as full. Else prove '..UptoSaid'. A law counts once. -/
mutual
def uptoBulk {H : Type} : DataW H → Nat
  | .lit (.string bytes) => bytes.length + 1
  | .lit _ => 1
  | .nil => 1
  | .ptr d => uptoBulk d + 1
  | .slice elems spare => uptoBulkAll elems + uptoBulkAll spare + 1
  | .agg parts => uptoBulkAll parts + 1
  | .iface _ d => uptoBulk d + 1
  | .map entries => uptoBulkEntries entries + 1
  | .held _ => 1
def uptoBulkAll {H : Type} : List (DataW H) → Nat
  | [] => 0
  | d :: r => uptoBulk d + uptoBulkAll r
def uptoBulkEntries {H : Type} : List (Lit × DataW H) → Nat
  | [] => 0
  | x :: r => uptoBulkEntry x + uptoBulkEntries r
def uptoBulkEntry {H : Type} : Lit × DataW H → Nat
  | (.string bytes, d) => bytes.length + uptoBulk d + 1
  | (_, d) => uptoBulk d + 1
 end
def uptoSmall : (H : Type) → List (DataW H) → Bool := fun _ ds => decide (uptoBulkAll ds ≤ 1048576)
def OpenSpec.upto (s : _root_.Go.ChangeSpec) : _root_.Go.OpenSpec := { _root_.Go.OpenSpec.ofChange s with cond := some uptoSmall }

/-- 'bivouaclaw18.BlastHurts', WHERE WHAT IT READS IS OF BULK AT MOST 1048576: true; the input reads as it did. -/
def blastHurtsUptoRow : OpenClaim := { program := "ytgkkldhgopdphaa", sum := "bc2d3944e4653d604d15f55b65b60207fb065c07e4b0022c695f55a2e263382d", func := "bivouac/bivouaclaw18.BlastHurts", spec := "blastHurts", unfollowed := true, recurses := true, apart := false, narrowed := true }
def BlastHurtsUptoSaid : Prop := blastHurtsUptoRow.holds Try.pinned (OpenSpec.upto blastHurtsSpec)

/-- 'bivouaclaw18.BlastStrikes', WHERE WHAT IT READS IS OF BULK AT MOST 1048576: true; the input reads as it did. -/
def blastStrikesUptoRow : OpenClaim := { program := "ytgkkldhgopdphaa", sum := "bc2d3944e4653d604d15f55b65b60207fb065c07e4b0022c695f55a2e263382d", func := "bivouac/bivouaclaw18.BlastStrikes", spec := "blastStrikes", unfollowed := true, recurses := true, apart := false, narrowed := true }
def BlastStrikesUptoSaid : Prop := blastStrikesUptoRow.holds Try.pinned (OpenSpec.upto blastStrikesSpec)

/-- 'bivouaclaw18.BlastOrders', WHERE WHAT IT READS IS OF BULK AT MOST 1048576: true; the input reads as it did. -/
def blastOrdersUptoRow : OpenClaim := { program := "ytgkkldhgopdphaa", sum := "bc2d3944e4653d604d15f55b65b60207fb065c07e4b0022c695f55a2e263382d", func := "bivouac/bivouaclaw18.BlastOrders", spec := "blastOrders", unfollowed := true, recurses := true, apart := false, narrowed := true }
def BlastOrdersUptoSaid : Prop := blastOrdersUptoRow.holds Try.pinned (OpenSpec.upto blastOrdersSpec)

/-- 'bivouaclaw18.BlastFarther', WHERE WHAT IT READS IS OF BULK AT MOST 1048576: true; the input reads as it did. -/
def blastFartherUptoRow : OpenClaim := { program := "ytgkkldhgopdphaa", sum := "bc2d3944e4653d604d15f55b65b60207fb065c07e4b0022c695f55a2e263382d", func := "bivouac/bivouaclaw18.BlastFarther", spec := "blastFarther", unfollowed := true, recurses := true, apart := false, narrowed := true }
def BlastFartherUptoSaid : Prop := blastFartherUptoRow.holds Try.pinned (OpenSpec.upto blastFartherSpec)

end Rows
end Go.Proofs.Ytgkkldhgopdphaa
