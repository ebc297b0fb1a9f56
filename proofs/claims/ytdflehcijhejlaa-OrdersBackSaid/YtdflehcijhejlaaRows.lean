/-
  No cell of these rows narrows 'for every input' (looked for: loops, veiled, ifaces, maps, wideKeys, modest, calm, conditions, laid).
  DERIVED. THE GIVEN ROWS OF THIS SEAT. 7 by the template 'for every input the law returns true; each argument reads behind the call as it read before'; 0 by the template 'total and deterministic' (their statements: YtdflehcijhejlaaTotals.lean).
  GIVEN WITH THE SEED: the statements are not yours to turn. If you find one false, say at which input.
  Laid BY PROGRAM, IN A SANDBOX (cutbox-rows.mjs): the forced cells as the released guide's own fill.sh prints them over the translation 20f4c95c5ffc1db2… (all of the seat's roots in one cut). By AI agents, Wed Nov 11 2026. No macro, syntax, notation, axiom, sorry.
-/
import Derived.Test.YtdflehcijhejlaaChecked
import GoSem.Claim
import GoSem.ClaimJoined
import GoSem.ClaimMapViews
import Derived.JoinedTies
import Derived.KernelRfl
namespace Go.Proofs.Ytdflehcijhejlaa
/- THE CELL 'sum', in the pinned program and in every row, IS THE sha256 OF THE DUMP (.gsa) THAT YtdflehcijhejlaaProg.lean LOADS. Nothing in Lean hashes anything: it is a label: what it is worth is what the hold of that sum in a sandbox is worth. -/
noncomputable def Try.pinned : Pinned := { name := "ytdflehcijhejlaa", sum := "20f4c95c5ffc1db200e508998def23cc8d1f4a91807a028c69bac8d31b98a0fc", checked := Try.checked }
namespace Rows
def none {H : Type} : Left H := { results := [], args := [] }

/-- 'bivouaclaw22.OrdersNumbers': WHATEVER THE INPUT: true; the input reads as it did. -/
def ordersNumbersSpec : ChangeSpec := { name := "ordersNumbers", fn := fun _ => fun
  | [] => { results := [.lit (.bool true)], args := [] }
  | _ => none }
def ordersNumbersRow : OpenClaim := { program := "ytdflehcijhejlaa", sum := "20f4c95c5ffc1db200e508998def23cc8d1f4a91807a028c69bac8d31b98a0fc", func := "bivouac/bivouaclaw22.OrdersNumbers", spec := "ordersNumbers", apart := false }
def OrdersNumbersSaid : Prop := ordersNumbersRow.holds Try.pinned (OpenSpec.ofChange ordersNumbersSpec)

/-- ITS FALSE NEIGHBOUR: 'it returns false'. Refute it at one input. -/
def ordersNumbersWrong : ChangeSpec := { name := "ordersNumbers", fn := fun _ => fun
  | [] => { results := [.lit (.bool false)], args := [] }
  | _ => none }
def OrdersNumbersWrongFalsely : Prop := ordersNumbersRow.holds Try.pinned (OpenSpec.ofChange ordersNumbersWrong)

/-- 'bivouaclaw22.OrdersEncodes': WHATEVER THE INPUT: true; the input reads as it did. -/
def ordersEncodesSpec : ChangeSpec := { name := "ordersEncodes", fn := fun _ => fun
  | [d] => { results := [.lit (.bool true)], args := [d] }
  | _ => none }
def ordersEncodesRow : OpenClaim := { program := "ytdflehcijhejlaa", sum := "20f4c95c5ffc1db200e508998def23cc8d1f4a91807a028c69bac8d31b98a0fc", func := "bivouac/bivouaclaw22.OrdersEncodes", spec := "ordersEncodes", apart := false }
def OrdersEncodesSaid : Prop := ordersEncodesRow.holds Try.pinned (OpenSpec.ofChange ordersEncodesSpec)

/-- ITS FALSE NEIGHBOUR: 'it returns false'. Refute it at one input. -/
def ordersEncodesWrong : ChangeSpec := { name := "ordersEncodes", fn := fun _ => fun
  | [d] => { results := [.lit (.bool false)], args := [d] }
  | _ => none }
def OrdersEncodesWrongFalsely : Prop := ordersEncodesRow.holds Try.pinned (OpenSpec.ofChange ordersEncodesWrong)

/-- 'bivouaclaw22.OrdersDecodes': WHATEVER THE INPUT: true; the input reads as it did. -/
def ordersDecodesSpec : ChangeSpec := { name := "ordersDecodes", fn := fun _ => fun
  | [d] => { results := [.lit (.bool true)], args := [d] }
  | _ => none }
def ordersDecodesRow : OpenClaim := { program := "ytdflehcijhejlaa", sum := "20f4c95c5ffc1db200e508998def23cc8d1f4a91807a028c69bac8d31b98a0fc", func := "bivouac/bivouaclaw22.OrdersDecodes", spec := "ordersDecodes", apart := false }
def OrdersDecodesSaid : Prop := ordersDecodesRow.holds Try.pinned (OpenSpec.ofChange ordersDecodesSpec)

/-- ITS FALSE NEIGHBOUR: 'it returns false'. Refute it at one input. -/
def ordersDecodesWrong : ChangeSpec := { name := "ordersDecodes", fn := fun _ => fun
  | [d] => { results := [.lit (.bool false)], args := [d] }
  | _ => none }
def OrdersDecodesWrongFalsely : Prop := ordersDecodesRow.holds Try.pinned (OpenSpec.ofChange ordersDecodesWrong)

/-- 'bivouaclaw22.OrdersBack': WHATEVER THE INPUT: true; the input reads as it did. -/
def ordersBackSpec : ChangeSpec := { name := "ordersBack", fn := fun _ => fun
  | [d1, d2] => { results := [.lit (.bool true)], args := [d1, d2] }
  | _ => none }
def ordersBackRow : OpenClaim := { program := "ytdflehcijhejlaa", sum := "20f4c95c5ffc1db200e508998def23cc8d1f4a91807a028c69bac8d31b98a0fc", func := "bivouac/bivouaclaw22.OrdersBack", spec := "ordersBack", apart := false }
def OrdersBackSaid : Prop := ordersBackRow.holds Try.pinned (OpenSpec.ofChange ordersBackSpec)

/-- ITS FALSE NEIGHBOUR: 'it returns false'. Refute it at one input. -/
def ordersBackWrong : ChangeSpec := { name := "ordersBack", fn := fun _ => fun
  | [d1, d2] => { results := [.lit (.bool false)], args := [d1, d2] }
  | _ => none }
def OrdersBackWrongFalsely : Prop := ordersBackRow.holds Try.pinned (OpenSpec.ofChange ordersBackWrong)

/-- 'bivouaclaw22.OrdersChecks': WHATEVER THE INPUT: true; the input reads as it did. -/
def ordersChecksSpec : ChangeSpec := { name := "ordersChecks", fn := fun _ => fun
  | [d1, d2, d3] => { results := [.lit (.bool true)], args := [d1, d2, d3] }
  | _ => none }
def ordersChecksRow : OpenClaim := { program := "ytdflehcijhejlaa", sum := "20f4c95c5ffc1db200e508998def23cc8d1f4a91807a028c69bac8d31b98a0fc", func := "bivouac/bivouaclaw22.OrdersChecks", spec := "ordersChecks", apart := false }
def OrdersChecksSaid : Prop := ordersChecksRow.holds Try.pinned (OpenSpec.ofChange ordersChecksSpec)

/-- ITS FALSE NEIGHBOUR: 'it returns false'. Refute it at one input. -/
def ordersChecksWrong : ChangeSpec := { name := "ordersChecks", fn := fun _ => fun
  | [d1, d2, d3] => { results := [.lit (.bool false)], args := [d1, d2, d3] }
  | _ => none }
def OrdersChecksWrongFalsely : Prop := ordersChecksRow.holds Try.pinned (OpenSpec.ofChange ordersChecksWrong)

/-- 'bivouaclaw22.OrdersRight': WHATEVER THE INPUT: true; the input reads as it did. -/
def ordersRightSpec : ChangeSpec := { name := "ordersRight", fn := fun _ => fun
  | [d1, d2, d3] => { results := [.lit (.bool true)], args := [d1, d2, d3] }
  | _ => none }
def ordersRightRow : OpenClaim := { program := "ytdflehcijhejlaa", sum := "20f4c95c5ffc1db200e508998def23cc8d1f4a91807a028c69bac8d31b98a0fc", func := "bivouac/bivouaclaw22.OrdersRight", spec := "ordersRight", apart := false }
def OrdersRightSaid : Prop := ordersRightRow.holds Try.pinned (OpenSpec.ofChange ordersRightSpec)

/-- ITS FALSE NEIGHBOUR: 'it returns false'. Refute it at one input. -/
def ordersRightWrong : ChangeSpec := { name := "ordersRight", fn := fun _ => fun
  | [d1, d2, d3] => { results := [.lit (.bool false)], args := [d1, d2, d3] }
  | _ => none }
def OrdersRightWrongFalsely : Prop := ordersRightRow.holds Try.pinned (OpenSpec.ofChange ordersRightWrong)

/-- 'bivouaclaw22.OrdersPush': WHATEVER THE INPUT: true; the input reads as it did. -/
def ordersPushSpec : ChangeSpec := { name := "ordersPush", fn := fun _ => fun
  | [d1, d2] => { results := [.lit (.bool true)], args := [d1, d2] }
  | _ => none }
def ordersPushRow : OpenClaim := { program := "ytdflehcijhejlaa", sum := "20f4c95c5ffc1db200e508998def23cc8d1f4a91807a028c69bac8d31b98a0fc", func := "bivouac/bivouaclaw22.OrdersPush", spec := "ordersPush", apart := false }
def OrdersPushSaid : Prop := ordersPushRow.holds Try.pinned (OpenSpec.ofChange ordersPushSpec)

/-- ITS FALSE NEIGHBOUR: 'it returns false'. Refute it at one input. -/
def ordersPushWrong : ChangeSpec := { name := "ordersPush", fn := fun _ => fun
  | [d1, d2] => { results := [.lit (.bool false)], args := [d1, d2] }
  | _ => none }
def OrdersPushWrongFalsely : Prop := ordersPushRow.holds Try.pinned (OpenSpec.ofChange ordersPushWrong)

/- THE SECOND FORM. 'bulk': how many values and letters a reading holds, each counted each time it is reached (what is shared counts as often as it is met; a slice's spare places count too). A statement '..UptoSaid' is the law's where the arguments, and the package variables that the reading takes, are together of bulk at most 1048576: NARROWER than '..Said'. Prove '..Said' where nothing that the law and all that it calls make is longer than what came in: it says more and counts as full. Else prove '..UptoSaid'. A law counts once. -/
mutual
def uptoBulk {H : Type} : DataW H → Nat
  | .lit (.string bytes) => bytes.length + 1
  | .lit _ => 1
  | .nil => 1
  | .ptr d => uptoBulk d + 1
  | .slice elems spare => uptoBulkAll elems + uptoBulkAll spare + 1
  | .agg parts => uptoBulkAll parts + 1
  | .iface _ d => uptoBulk d + 1
  | .map entries => uptoBulkEntries entries + 1
  | .held _ => 1
def uptoBulkAll {H : Type} : List (DataW H) → Nat
  | [] => 0
  | d :: r => uptoBulk d + uptoBulkAll r
def uptoBulkEntries {H : Type} : List (Lit × DataW H) → Nat
  | [] => 0
  | x :: r => uptoBulkEntry x + uptoBulkEntries r
def uptoBulkEntry {H : Type} : Lit × DataW H → Nat
  | (.string bytes, d) => bytes.length + uptoBulk d + 1
  | (_, d) => uptoBulk d + 1
 end
def uptoSmall : (H : Type) → List (DataW H) → Bool := fun _ ds => decide (uptoBulkAll ds ≤ 1048576)
def OpenSpec.upto (s : _root_.Go.ChangeSpec) : _root_.Go.OpenSpec := { _root_.Go.OpenSpec.ofChange s with cond := some uptoSmall }

/-- 'bivouaclaw22.OrdersNumbers', WHERE WHAT IT READS IS OF BULK AT MOST 1048576: true; the input reads as it did. -/
def ordersNumbersUptoRow : OpenClaim := { program := "ytdflehcijhejlaa", sum := "20f4c95c5ffc1db200e508998def23cc8d1f4a91807a028c69bac8d31b98a0fc", func := "bivouac/bivouaclaw22.OrdersNumbers", spec := "ordersNumbers", apart := false, narrowed := true }
def OrdersNumbersUptoSaid : Prop := ordersNumbersUptoRow.holds Try.pinned (OpenSpec.upto ordersNumbersSpec)

/-- 'bivouaclaw22.OrdersEncodes', WHERE WHAT IT READS IS OF BULK AT MOST 1048576: true; the input reads as it did. -/
def ordersEncodesUptoRow : OpenClaim := { program := "ytdflehcijhejlaa", sum := "20f4c95c5ffc1db200e508998def23cc8d1f4a91807a028c69bac8d31b98a0fc", func := "bivouac/bivouaclaw22.OrdersEncodes", spec := "ordersEncodes", apart := false, narrowed := true }
def OrdersEncodesUptoSaid : Prop := ordersEncodesUptoRow.holds Try.pinned (OpenSpec.upto ordersEncodesSpec)

/-- 'bivouaclaw22.OrdersDecodes', WHERE WHAT IT READS IS OF BULK AT MOST 1048576: true; the input reads as it did. -/
def ordersDecodesUptoRow : OpenClaim := { program := "ytdflehcijhejlaa", sum := "20f4c95c5ffc1db200e508998def23cc8d1f4a91807a028c69bac8d31b98a0fc", func := "bivouac/bivouaclaw22.OrdersDecodes", spec := "ordersDecodes", apart := false, narrowed := true }
def OrdersDecodesUptoSaid : Prop := ordersDecodesUptoRow.holds Try.pinned (OpenSpec.upto ordersDecodesSpec)

/-- 'bivouaclaw22.OrdersBack', WHERE WHAT IT READS IS OF BULK AT MOST 1048576: true; the input reads as it did. -/
def ordersBackUptoRow : OpenClaim := { program := "ytdflehcijhejlaa", sum := "20f4c95c5ffc1db200e508998def23cc8d1f4a91807a028c69bac8d31b98a0fc", func := "bivouac/bivouaclaw22.OrdersBack", spec := "ordersBack", apart := false, narrowed := true }
def OrdersBackUptoSaid : Prop := ordersBackUptoRow.holds Try.pinned (OpenSpec.upto ordersBackSpec)

/-- 'bivouaclaw22.OrdersChecks', WHERE WHAT IT READS IS OF BULK AT MOST 1048576: true; the input reads as it did. -/
def ordersChecksUptoRow : OpenClaim := { program := "ytdflehcijhejlaa", sum := "20f4c95c5ffc1db200e508998def23cc8d1f4a91807a028c69bac8d31b98a0fc", func := "bivouac/bivouaclaw22.OrdersChecks", spec := "ordersChecks", apart := false, narrowed := true }
def OrdersChecksUptoSaid : Prop := ordersChecksUptoRow.holds Try.pinned (OpenSpec.upto ordersChecksSpec)

/-- 'bivouaclaw22.OrdersRight', WHERE WHAT IT READS IS OF BULK AT MOST 1048576: true; the input reads as it did. -/
def ordersRightUptoRow : OpenClaim := { program := "ytdflehcijhejlaa", sum := "20f4c95c5ffc1db200e508998def23cc8d1f4a91807a028c69bac8d31b98a0fc", func := "bivouac/bivouaclaw22.OrdersRight", spec := "ordersRight", apart := false, narrowed := true }
def OrdersRightUptoSaid : Prop := ordersRightUptoRow.holds Try.pinned (OpenSpec.upto ordersRightSpec)

/-- 'bivouaclaw22.OrdersPush', WHERE WHAT IT READS IS OF BULK AT MOST 1048576: true; the input reads as it did. -/
def ordersPushUptoRow : OpenClaim := { program := "ytdflehcijhejlaa", sum := "20f4c95c5ffc1db200e508998def23cc8d1f4a91807a028c69bac8d31b98a0fc", func := "bivouac/bivouaclaw22.OrdersPush", spec := "ordersPush", apart := false, narrowed := true }
def OrdersPushUptoSaid : Prop := ordersPushUptoRow.holds Try.pinned (OpenSpec.upto ordersPushSpec)

end Rows
end Go.Proofs.Ytdflehcijhejlaa
