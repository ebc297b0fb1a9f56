/-
  No cell of these rows narrows 'for every input' (looked for: loops, veiled, ifaces, maps, wideKeys, modest, calm, conditions, laid).
  DERIVED. THE GIVEN ROWS OF THIS SEAT. 2 by the template 'for every input the law returns true; each argument reads behind the call as it read before'; 0 by the template 'total and deterministic' (their statements: YthfpdhhnokhldaaTotals.lean).
  GIVEN WITH THE SEED: the statements are not yours to turn. If you find one false, say at which input.
  Laid BY PROGRAM, IN A SANDBOX (cutbox-rows.mjs): the forced cells as the released guide's own fill.sh prints them over the translation a44df7732f815cad… (all of the seat's roots in one cut). By AI agents, Wed Nov 11 2026. No macro, syntax, notation, axiom, sorry.
-/
import Derived.Test.YthfpdhhnokhldaaChecked
import GoSem.Claim
import GoSem.ClaimJoined
import GoSem.ClaimMapViews
import Derived.JoinedTies
import Derived.KernelRfl
namespace Go.Proofs.Ythfpdhhnokhldaa
/- THE CELL 'sum', in the pinned program and in every row, IS THE sha256 OF THE DUMP (.gsa) THAT YthfpdhhnokhldaaProg.lean LOADS. Nothing in Lean hashes anything: it is a label: what it is worth is what the hold of that sum in a sandbox is worth. -/
noncomputable def Try.pinned : Pinned := { name := "ythfpdhhnokhldaa", sum := "a44df7732f815cade9f215a75e6782b107d882242d1f997746b720ff614a8c10", checked := Try.checked }
namespace Rows
def none {H : Type} : Left H := { results := [], args := [] }

/-- 'bivouactop.BivouacLand': WHATEVER THE INPUT: true; the input reads as it did. -/
def bivouacLandSpec : ChangeSpec := { name := "bivouacLand", fn := fun _ => fun
  | [d] => { results := [.lit (.bool true)], args := [d] }
  | _ => none }
def bivouacLandRow : OpenClaim := { program := "ythfpdhhnokhldaa", sum := "a44df7732f815cade9f215a75e6782b107d882242d1f997746b720ff614a8c10", func := "bivouac/bivouactop.BivouacLand", spec := "bivouacLand", unfollowed := true, recurses := true, apart := false }
def BivouacLandSaid : Prop := bivouacLandRow.holds Try.pinned (OpenSpec.ofChange bivouacLandSpec)

/-- ITS FALSE NEIGHBOUR: 'it returns false'. Refute it at one input. -/
def bivouacLandWrong : ChangeSpec := { name := "bivouacLand", fn := fun _ => fun
  | [d] => { results := [.lit (.bool false)], args := [d] }
  | _ => none }
def BivouacLandWrongFalsely : Prop := bivouacLandRow.holds Try.pinned (OpenSpec.ofChange bivouacLandWrong)

/-- 'bivouactop.BivouacStores': WHATEVER THE INPUT: true; the input reads as it did. -/
def bivouacStoresSpec : ChangeSpec := { name := "bivouacStores", fn := fun _ => fun
  | [d1, d2, d3] => { results := [.lit (.bool true)], args := [d1, d2, d3] }
  | _ => none }
def bivouacStoresRow : OpenClaim := { program := "ythfpdhhnokhldaa", sum := "a44df7732f815cade9f215a75e6782b107d882242d1f997746b720ff614a8c10", func := "bivouac/bivouactop.BivouacStores", spec := "bivouacStores", unfollowed := true, recurses := true, named := ["math/bits.divideError", "math/bits.overflowError"], apart := false }
def BivouacStoresSaid : Prop := bivouacStoresRow.holds Try.pinned (OpenSpec.ofChange bivouacStoresSpec)

/-- ITS FALSE NEIGHBOUR: 'it returns false'. Refute it at one input. -/
def bivouacStoresWrong : ChangeSpec := { name := "bivouacStores", fn := fun _ => fun
  | [d1, d2, d3] => { results := [.lit (.bool false)], args := [d1, d2, d3] }
  | _ => none }
def BivouacStoresWrongFalsely : Prop := bivouacStoresRow.holds Try.pinned (OpenSpec.ofChange bivouacStoresWrong)

/- THE SECOND FORM. 'bulk': how many values and letters a reading holds, each counted each time it is reached (what is shared counts as often as it is met; a slice's spare places count too). A statement '..UptoSaid' is the law's where the arguments, and the package variables that the reading takes, are together of bulk at most 1048576: NARROWER than '..Said'. Prove '..Said' where nothing that the law and all that it calls make is longer than what came in: it says more and counts as full. Else prove '..UptoSaid'. A law counts once. -/
mutual
def uptoBulk {H : Type} : DataW H → Nat
  | .lit (.string bytes) => bytes.length + 1
  | .lit _ => 1
  | .nil => 1
  | .ptr d => uptoBulk d + 1
  | .slice elems spare => uptoBulkAll elems + uptoBulkAll spare + 1
  | .agg parts => uptoBulkAll parts + 1
  | .iface _ d => uptoBulk d + 1
  | .map entries => uptoBulkEntries entries + 1
  | .held _ => 1
def uptoBulkAll {H : Type} : List (DataW H) → Nat
  | [] => 0
  | d :: r => uptoBulk d + uptoBulkAll r
def uptoBulkEntries {H : Type} : List (Lit × DataW H) → Nat
  | [] => 0
  | x :: r => uptoBulkEntry x + uptoBulkEntries r
def uptoBulkEntry {H : Type} : Lit × DataW H → Nat
  | (.string bytes, d) => bytes.length + uptoBulk d + 1
  | (_, d) => uptoBulk d + 1
 end
def uptoSmall : (H : Type) → List (DataW H) → Bool := fun _ ds => decide (uptoBulkAll ds ≤ 1048576)
def OpenSpec.upto (s : _root_.Go.ChangeSpec) : _root_.Go.OpenSpec := { _root_.Go.OpenSpec.ofChange s with cond := some uptoSmall }

/-- 'bivouactop.BivouacLand', WHERE WHAT IT READS IS OF BULK AT MOST 1048576: true; the input reads as it did. -/
def bivouacLandUptoRow : OpenClaim := { program := "ythfpdhhnokhldaa", sum := "a44df7732f815cade9f215a75e6782b107d882242d1f997746b720ff614a8c10", func := "bivouac/bivouactop.BivouacLand", spec := "bivouacLand", unfollowed := true, recurses := true, apart := false, narrowed := true }
def BivouacLandUptoSaid : Prop := bivouacLandUptoRow.holds Try.pinned (OpenSpec.upto bivouacLandSpec)

/-- 'bivouactop.BivouacStores', WHERE WHAT IT READS IS OF BULK AT MOST 1048576: true; the input reads as it did. -/
def bivouacStoresUptoRow : OpenClaim := { program := "ythfpdhhnokhldaa", sum := "a44df7732f815cade9f215a75e6782b107d882242d1f997746b720ff614a8c10", func := "bivouac/bivouactop.BivouacStores", spec := "bivouacStores", unfollowed := true, recurses := true, named := ["math/bits.divideError", "math/bits.overflowError"], apart := false, narrowed := true }
def BivouacStoresUptoSaid : Prop := bivouacStoresUptoRow.holds Try.pinned (OpenSpec.upto bivouacStoresSpec)

end Rows
end Go.Proofs.Ythfpdhhnokhldaa
