/-
  No cell of these rows narrows 'for every input' (looked for: loops, veiled, ifaces, maps, wideKeys, modest, calm, conditions, laid).
  DERIVED. THE GIVEN ROWS OF THIS SEAT. 5 by the template 'for every input the law returns true; each argument reads behind the call as it read before'; 0 by the template 'total and deterministic' (their statements: YtfpconjpgaddkaaTotals.lean).
  GIVEN WITH THE SEED: the statements are not yours to turn. If you find one false, say at which input.
  Laid BY PROGRAM, IN A SANDBOX (cutbox-rows.mjs): the forced cells as the released guide's own fill.sh prints them over the translation e229937afd285bed… (all of the seat's roots in one cut). By AI agents, Wed Nov 11 2026. No macro, syntax, notation, axiom, sorry.
-/
import Derived.Test.YtfpconjpgaddkaaChecked
import GoSem.Claim
import GoSem.ClaimJoined
import GoSem.ClaimMapViews
import Derived.JoinedTies
import Derived.KernelRfl
namespace Go.Proofs.Ytfpconjpgaddkaa
/- THE CELL 'sum', in the pinned program and in every row, IS THE sha256 OF THE DUMP (.gsa) THAT YtfpconjpgaddkaaProg.lean LOADS. Nothing in Lean hashes anything: it is a label: what it is worth is what the hold of that sum in a sandbox is worth. -/
noncomputable def Try.pinned : Pinned := { name := "ytfpconjpgaddkaa", sum := "e229937afd285bed7a558934d328220bb61cf3400186038e2337477f39663e15", checked := Try.checked }
namespace Rows
def none {H : Type} : Left H := { results := [], args := [] }

/-- 'bivouaclaw15.CrowdChecks': WHATEVER THE INPUT: true; the input reads as it did. -/
def crowdChecksSpec : ChangeSpec := { name := "crowdChecks", fn := fun _ => fun
  | [d] => { results := [.lit (.bool true)], args := [d] }
  | _ => none }
def crowdChecksRow : OpenClaim := { program := "ytfpconjpgaddkaa", sum := "e229937afd285bed7a558934d328220bb61cf3400186038e2337477f39663e15", func := "bivouac/bivouaclaw15.CrowdChecks", spec := "crowdChecks", apart := false }
def CrowdChecksSaid : Prop := crowdChecksRow.holds Try.pinned (OpenSpec.ofChange crowdChecksSpec)

/-- ITS FALSE NEIGHBOUR: 'it returns false'. Refute it at one input. -/
def crowdChecksWrong : ChangeSpec := { name := "crowdChecks", fn := fun _ => fun
  | [d] => { results := [.lit (.bool false)], args := [d] }
  | _ => none }
def CrowdChecksWrongFalsely : Prop := crowdChecksRow.holds Try.pinned (OpenSpec.ofChange crowdChecksWrong)

/-- 'bivouaclaw15.CrowdSettles': WHATEVER THE INPUT: true; the input reads as it did. -/
def crowdSettlesSpec : ChangeSpec := { name := "crowdSettles", fn := fun _ => fun
  | [d] => { results := [.lit (.bool true)], args := [d] }
  | _ => none }
def crowdSettlesRow : OpenClaim := { program := "ytfpconjpgaddkaa", sum := "e229937afd285bed7a558934d328220bb61cf3400186038e2337477f39663e15", func := "bivouac/bivouaclaw15.CrowdSettles", spec := "crowdSettles", apart := false }
def CrowdSettlesSaid : Prop := crowdSettlesRow.holds Try.pinned (OpenSpec.ofChange crowdSettlesSpec)

/-- ITS FALSE NEIGHBOUR: 'it returns false'. Refute it at one input. -/
def crowdSettlesWrong : ChangeSpec := { name := "crowdSettles", fn := fun _ => fun
  | [d] => { results := [.lit (.bool false)], args := [d] }
  | _ => none }
def CrowdSettlesWrongFalsely : Prop := crowdSettlesRow.holds Try.pinned (OpenSpec.ofChange crowdSettlesWrong)

/-- 'bivouaclaw15.CrowdApart': WHATEVER THE INPUT: true; the input reads as it did. -/
def crowdApartSpec : ChangeSpec := { name := "crowdApart", fn := fun _ => fun
  | [d] => { results := [.lit (.bool true)], args := [d] }
  | _ => none }
def crowdApartRow : OpenClaim := { program := "ytfpconjpgaddkaa", sum := "e229937afd285bed7a558934d328220bb61cf3400186038e2337477f39663e15", func := "bivouac/bivouaclaw15.CrowdApart", spec := "crowdApart", apart := false }
def CrowdApartSaid : Prop := crowdApartRow.holds Try.pinned (OpenSpec.ofChange crowdApartSpec)

/-- ITS FALSE NEIGHBOUR: 'it returns false'. Refute it at one input. -/
def crowdApartWrong : ChangeSpec := { name := "crowdApart", fn := fun _ => fun
  | [d] => { results := [.lit (.bool false)], args := [d] }
  | _ => none }
def CrowdApartWrongFalsely : Prop := crowdApartRow.holds Try.pinned (OpenSpec.ofChange crowdApartWrong)

/-- 'bivouaclaw15.CrowdStill': WHATEVER THE INPUT: true; the input reads as it did. -/
def crowdStillSpec : ChangeSpec := { name := "crowdStill", fn := fun _ => fun
  | [d] => { results := [.lit (.bool true)], args := [d] }
  | _ => none }
def crowdStillRow : OpenClaim := { program := "ytfpconjpgaddkaa", sum := "e229937afd285bed7a558934d328220bb61cf3400186038e2337477f39663e15", func := "bivouac/bivouaclaw15.CrowdStill", spec := "crowdStill", apart := false }
def CrowdStillSaid : Prop := crowdStillRow.holds Try.pinned (OpenSpec.ofChange crowdStillSpec)

/-- ITS FALSE NEIGHBOUR: 'it returns false'. Refute it at one input. -/
def crowdStillWrong : ChangeSpec := { name := "crowdStill", fn := fun _ => fun
  | [d] => { results := [.lit (.bool false)], args := [d] }
  | _ => none }
def CrowdStillWrongFalsely : Prop := crowdStillRow.holds Try.pinned (OpenSpec.ofChange crowdStillWrong)

/-- 'bivouaclaw15.CrowdHeld': WHATEVER THE INPUT: true; the input reads as it did. -/
def crowdHeldSpec : ChangeSpec := { name := "crowdHeld", fn := fun _ => fun
  | [d] => { results := [.lit (.bool true)], args := [d] }
  | _ => none }
def crowdHeldRow : OpenClaim := { program := "ytfpconjpgaddkaa", sum := "e229937afd285bed7a558934d328220bb61cf3400186038e2337477f39663e15", func := "bivouac/bivouaclaw15.CrowdHeld", spec := "crowdHeld", apart := false }
def CrowdHeldSaid : Prop := crowdHeldRow.holds Try.pinned (OpenSpec.ofChange crowdHeldSpec)

/-- ITS FALSE NEIGHBOUR: 'it returns false'. Refute it at one input. -/
def crowdHeldWrong : ChangeSpec := { name := "crowdHeld", fn := fun _ => fun
  | [d] => { results := [.lit (.bool false)], args := [d] }
  | _ => none }
def CrowdHeldWrongFalsely : Prop := crowdHeldRow.holds Try.pinned (OpenSpec.ofChange crowdHeldWrong)

/- THE SECOND FORM. 'bulk': how many values and letters a reading holds, each counted each time it is reached (what is shared counts as often as it is met; a slice's spare places count too). A statement '..UptoSaid' is the law's where the arguments, and the package variables that the reading takes, are together of bulk at most 1048576: NARROWER than '..Said'. Prove '..Said' where nothing that the law and all that it calls make is longer than what came in: it says more and counts as full. Else prove '..UptoSaid'. A law counts once. -/
mutual
def uptoBulk {H : Type} : DataW H → Nat
  | .lit (.string bytes) => bytes.length + 1
  | .lit _ => 1
  | .nil => 1
  | .ptr d => uptoBulk d + 1
  | .slice elems spare => uptoBulkAll elems + uptoBulkAll spare + 1
  | .agg parts => uptoBulkAll parts + 1
  | .iface _ d => uptoBulk d + 1
  | .map entries => uptoBulkEntries entries + 1
  | .held _ => 1
def uptoBulkAll {H : Type} : List (DataW H) → Nat
  | [] => 0
  | d :: r => uptoBulk d + uptoBulkAll r
def uptoBulkEntries {H : Type} : List (Lit × DataW H) → Nat
  | [] => 0
  | x :: r => uptoBulkEntry x + uptoBulkEntries r
def uptoBulkEntry {H : Type} : Lit × DataW H → Nat
  | (.string bytes, d) => bytes.length + uptoBulk d + 1
  | (_, d) => uptoBulk d + 1
 end
def uptoSmall : (H : Type) → List (DataW H) → Bool := fun _ ds => decide (uptoBulkAll ds ≤ 1048576)
def OpenSpec.upto (s : _root_.Go.ChangeSpec) : _root_.Go.OpenSpec := { _root_.Go.OpenSpec.ofChange s with cond := some uptoSmall }

/-- 'bivouaclaw15.CrowdChecks', WHERE WHAT IT READS IS OF BULK AT MOST 1048576: true; the input reads as it did. -/
def crowdChecksUptoRow : OpenClaim := { program := "ytfpconjpgaddkaa", sum := "e229937afd285bed7a558934d328220bb61cf3400186038e2337477f39663e15", func := "bivouac/bivouaclaw15.CrowdChecks", spec := "crowdChecks", apart := false, narrowed := true }
def CrowdChecksUptoSaid : Prop := crowdChecksUptoRow.holds Try.pinned (OpenSpec.upto crowdChecksSpec)

/-- 'bivouaclaw15.CrowdSettles', WHERE WHAT IT READS IS OF BULK AT MOST 1048576: true; the input reads as it did. -/
def crowdSettlesUptoRow : OpenClaim := { program := "ytfpconjpgaddkaa", sum := "e229937afd285bed7a558934d328220bb61cf3400186038e2337477f39663e15", func := "bivouac/bivouaclaw15.CrowdSettles", spec := "crowdSettles", apart := false, narrowed := true }
def CrowdSettlesUptoSaid : Prop := crowdSettlesUptoRow.holds Try.pinned (OpenSpec.upto crowdSettlesSpec)

/-- 'bivouaclaw15.CrowdApart', WHERE WHAT IT READS IS OF BULK AT MOST 1048576: true; the input reads as it did. -/
def crowdApartUptoRow : OpenClaim := { program := "ytfpconjpgaddkaa", sum := "e229937afd285bed7a558934d328220bb61cf3400186038e2337477f39663e15", func := "bivouac/bivouaclaw15.CrowdApart", spec := "crowdApart", apart := false, narrowed := true }
def CrowdApartUptoSaid : Prop := crowdApartUptoRow.holds Try.pinned (OpenSpec.upto crowdApartSpec)

/-- 'bivouaclaw15.CrowdStill', WHERE WHAT IT READS IS OF BULK AT MOST 1048576: true; the input reads as it did. -/
def crowdStillUptoRow : OpenClaim := { program := "ytfpconjpgaddkaa", sum := "e229937afd285bed7a558934d328220bb61cf3400186038e2337477f39663e15", func := "bivouac/bivouaclaw15.CrowdStill", spec := "crowdStill", apart := false, narrowed := true }
def CrowdStillUptoSaid : Prop := crowdStillUptoRow.holds Try.pinned (OpenSpec.upto crowdStillSpec)

/-- 'bivouaclaw15.CrowdHeld', WHERE WHAT IT READS IS OF BULK AT MOST 1048576: true; the input reads as it did. -/
def crowdHeldUptoRow : OpenClaim := { program := "ytfpconjpgaddkaa", sum := "e229937afd285bed7a558934d328220bb61cf3400186038e2337477f39663e15", func := "bivouac/bivouaclaw15.CrowdHeld", spec := "crowdHeld", apart := false, narrowed := true }
def CrowdHeldUptoSaid : Prop := crowdHeldUptoRow.holds Try.pinned (OpenSpec.upto crowdHeldSpec)

end Rows
end Go.Proofs.Ytfpconjpgaddkaa
