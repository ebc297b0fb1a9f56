/-
  No cell of these rows narrows 'for every input' (looked for: loops, veiled, ifaces, maps, wideKeys, modest, calm, conditions, laid).
  DERIVED. THE GIVEN ROWS OF THIS SEAT. 5 by the template 'for every input the law returns true; each argument reads behind the call as it read before'; 0 by the template 'total and deterministic' (their statements: YtmlpggggahpoaaaTotals.lean).
  GIVEN WITH THE SEED: the statements are not yours to turn. If you find one false, say at which input.
  Laid BY PROGRAM, IN A SANDBOX (cutbox-rows.mjs): the forced cells as the released guide's own fill.sh prints them over the translation 62212145809a2c56… (all of the seat's roots in one cut). By AI agents, Wed Nov 11 2026. No macro, syntax, notation, axiom, sorry.
-/
import Derived.Test.YtmlpggggahpoaaaChecked
import GoSem.Claim
import GoSem.ClaimJoined
import GoSem.ClaimMapViews
import Derived.JoinedTies
import Derived.KernelRfl
namespace Go.Proofs.Ytmlpggggahpoaaa
/- THE CELL 'sum', in the pinned program and in every row, IS THE sha256 OF THE DUMP (.gsa) THAT YtmlpggggahpoaaaProg.lean LOADS. Nothing in Lean hashes anything: it is a label: what it is worth is what the hold of that sum in a sandbox is worth. -/
noncomputable def Try.pinned : Pinned := { name := "ytmlpggggahpoaaa", sum := "62212145809a2c56182b456590eae53534178b6168960df16fa4dab248581c23", checked := Try.checked }
namespace Rows
def none {H : Type} : Left H := { results := [], args := [] }

/-- 'bivouaclaw13.RouteCosts': WHATEVER THE INPUT: true; the input reads as it did. -/
def routeCostsSpec : ChangeSpec := { name := "routeCosts", fn := fun _ => fun
  | [d1, d2] => { results := [.lit (.bool true)], args := [d1, d2] }
  | _ => none }
def routeCostsRow : OpenClaim := { program := "ytmlpggggahpoaaa", sum := "62212145809a2c56182b456590eae53534178b6168960df16fa4dab248581c23", func := "bivouac/bivouaclaw13.RouteCosts", spec := "routeCosts", unfollowed := true, recurses := true, apart := false }
def RouteCostsSaid : Prop := routeCostsRow.holds Try.pinned (OpenSpec.ofChange routeCostsSpec)

/-- ITS FALSE NEIGHBOUR: 'it returns false'. Refute it at one input. -/
def routeCostsWrong : ChangeSpec := { name := "routeCosts", fn := fun _ => fun
  | [d1, d2] => { results := [.lit (.bool false)], args := [d1, d2] }
  | _ => none }
def RouteCostsWrongFalsely : Prop := routeCostsRow.holds Try.pinned (OpenSpec.ofChange routeCostsWrong)

/-- 'bivouaclaw13.RouteWays': WHATEVER THE INPUT: true; the input reads as it did. -/
def routeWaysSpec : ChangeSpec := { name := "routeWays", fn := fun _ => fun
  | [d] => { results := [.lit (.bool true)], args := [d] }
  | _ => none }
def routeWaysRow : OpenClaim := { program := "ytmlpggggahpoaaa", sum := "62212145809a2c56182b456590eae53534178b6168960df16fa4dab248581c23", func := "bivouac/bivouaclaw13.RouteWays", spec := "routeWays", unfollowed := true, recurses := true, apart := false }
def RouteWaysSaid : Prop := routeWaysRow.holds Try.pinned (OpenSpec.ofChange routeWaysSpec)

/-- ITS FALSE NEIGHBOUR: 'it returns false'. Refute it at one input. -/
def routeWaysWrong : ChangeSpec := { name := "routeWays", fn := fun _ => fun
  | [d] => { results := [.lit (.bool false)], args := [d] }
  | _ => none }
def RouteWaysWrongFalsely : Prop := routeWaysRow.holds Try.pinned (OpenSpec.ofChange routeWaysWrong)

/-- 'bivouaclaw13.RouteBack': WHATEVER THE INPUT: true; the input reads as it did. -/
def routeBackSpec : ChangeSpec := { name := "routeBack", fn := fun _ => fun
  | [d] => { results := [.lit (.bool true)], args := [d] }
  | _ => none }
def routeBackRow : OpenClaim := { program := "ytmlpggggahpoaaa", sum := "62212145809a2c56182b456590eae53534178b6168960df16fa4dab248581c23", func := "bivouac/bivouaclaw13.RouteBack", spec := "routeBack", unfollowed := true, recurses := true, apart := false }
def RouteBackSaid : Prop := routeBackRow.holds Try.pinned (OpenSpec.ofChange routeBackSpec)

/-- ITS FALSE NEIGHBOUR: 'it returns false'. Refute it at one input. -/
def routeBackWrong : ChangeSpec := { name := "routeBack", fn := fun _ => fun
  | [d] => { results := [.lit (.bool false)], args := [d] }
  | _ => none }
def RouteBackWrongFalsely : Prop := routeBackRow.holds Try.pinned (OpenSpec.ofChange routeBackWrong)

/-- 'bivouaclaw13.RouteGoes': WHATEVER THE INPUT: true; the input reads as it did. -/
def routeGoesSpec : ChangeSpec := { name := "routeGoes", fn := fun _ => fun
  | [d] => { results := [.lit (.bool true)], args := [d] }
  | _ => none }
def routeGoesRow : OpenClaim := { program := "ytmlpggggahpoaaa", sum := "62212145809a2c56182b456590eae53534178b6168960df16fa4dab248581c23", func := "bivouac/bivouaclaw13.RouteGoes", spec := "routeGoes", unfollowed := true, recurses := true, apart := false }
def RouteGoesSaid : Prop := routeGoesRow.holds Try.pinned (OpenSpec.ofChange routeGoesSpec)

/-- ITS FALSE NEIGHBOUR: 'it returns false'. Refute it at one input. -/
def routeGoesWrong : ChangeSpec := { name := "routeGoes", fn := fun _ => fun
  | [d] => { results := [.lit (.bool false)], args := [d] }
  | _ => none }
def RouteGoesWrongFalsely : Prop := routeGoesRow.holds Try.pinned (OpenSpec.ofChange routeGoesWrong)

/-- 'bivouaclaw13.RouteOpens': WHATEVER THE INPUT: true; the input reads as it did. -/
def routeOpensSpec : ChangeSpec := { name := "routeOpens", fn := fun _ => fun
  | [d] => { results := [.lit (.bool true)], args := [d] }
  | _ => none }
def routeOpensRow : OpenClaim := { program := "ytmlpggggahpoaaa", sum := "62212145809a2c56182b456590eae53534178b6168960df16fa4dab248581c23", func := "bivouac/bivouaclaw13.RouteOpens", spec := "routeOpens", unfollowed := true, recurses := true, apart := false }
def RouteOpensSaid : Prop := routeOpensRow.holds Try.pinned (OpenSpec.ofChange routeOpensSpec)

/-- ITS FALSE NEIGHBOUR: 'it returns false'. Refute it at one input. -/
def routeOpensWrong : ChangeSpec := { name := "routeOpens", fn := fun _ => fun
  | [d] => { results := [.lit (.bool false)], args := [d] }
  | _ => none }
def RouteOpensWrongFalsely : Prop := routeOpensRow.holds Try.pinned (OpenSpec.ofChange routeOpensWrong)

/- THE SECOND FORM. 'bulk': how many values and letters a reading holds, each counted each time it is reached (what is shared counts as often as it is met; a slice's spare places count too). A statement '..UptoSaid' is the law's where the arguments, and the package variables that the reading takes, are together of bulk at most 1048576: NARROWER than '..Said'. Prove '..Said' where nothing that the law and all that it calls make is longer than what came in: it says more and counts as full. Else prove '..UptoSaid'. A law counts once. -/
mutual
def uptoBulk {H : Type} : DataW H → Nat
  | .lit (.string bytes) => bytes.length + 1
  | .lit _ => 1
  | .nil => 1
  | .ptr d => uptoBulk d + 1
  | .slice elems spare => uptoBulkAll elems + uptoBulkAll spare + 1
  | .agg parts => uptoBulkAll parts + 1
  | .iface _ d => uptoBulk d + 1
  | .map entries => uptoBulkEntries entries + 1
  | .held _ => 1
def uptoBulkAll {H : Type} : List (DataW H) → Nat
  | [] => 0
  | d :: r => uptoBulk d + uptoBulkAll r
def uptoBulkEntries {H : Type} : List (Lit × DataW H) → Nat
  | [] => 0
  | x :: r => uptoBulkEntry x + uptoBulkEntries r
def uptoBulkEntry {H : Type} : Lit × DataW H → Nat
  | (.string bytes, d) => bytes.length + uptoBulk d + 1
  | (_, d) => uptoBulk d + 1
 end
def uptoSmall : (H : Type) → List (DataW H) → Bool := fun _ ds => decide (uptoBulkAll ds ≤ 1048576)
def OpenSpec.upto (s : _root_.Go.ChangeSpec) : _root_.Go.OpenSpec := { _root_.Go.OpenSpec.ofChange s with cond := some uptoSmall }

/-- 'bivouaclaw13.RouteCosts', WHERE WHAT IT READS IS OF BULK AT MOST 1048576: true; the input reads as it did. -/
def routeCostsUptoRow : OpenClaim := { program := "ytmlpggggahpoaaa", sum := "62212145809a2c56182b456590eae53534178b6168960df16fa4dab248581c23", func := "bivouac/bivouaclaw13.RouteCosts", spec := "routeCosts", unfollowed := true, recurses := true, apart := false, narrowed := true }
def RouteCostsUptoSaid : Prop := routeCostsUptoRow.holds Try.pinned (OpenSpec.upto routeCostsSpec)

/-- 'bivouaclaw13.RouteWays', WHERE WHAT IT READS IS OF BULK AT MOST 1048576: true; the input reads as it did. -/
def routeWaysUptoRow : OpenClaim := { program := "ytmlpggggahpoaaa", sum := "62212145809a2c56182b456590eae53534178b6168960df16fa4dab248581c23", func := "bivouac/bivouaclaw13.RouteWays", spec := "routeWays", unfollowed := true, recurses := true, apart := false, narrowed := true }
def RouteWaysUptoSaid : Prop := routeWaysUptoRow.holds Try.pinned (OpenSpec.upto routeWaysSpec)

/-- 'bivouaclaw13.RouteBack', WHERE WHAT IT READS IS OF BULK AT MOST 1048576: true; the input reads as it did. -/
def routeBackUptoRow : OpenClaim := { program := "ytmlpggggahpoaaa", sum := "62212145809a2c56182b456590eae53534178b6168960df16fa4dab248581c23", func := "bivouac/bivouaclaw13.RouteBack", spec := "routeBack", unfollowed := true, recurses := true, apart := false, narrowed := true }
def RouteBackUptoSaid : Prop := routeBackUptoRow.holds Try.pinned (OpenSpec.upto routeBackSpec)

/-- 'bivouaclaw13.RouteGoes', WHERE WHAT IT READS IS OF BULK AT MOST 1048576: true; the input reads as it did. -/
def routeGoesUptoRow : OpenClaim := { program := "ytmlpggggahpoaaa", sum := "62212145809a2c56182b456590eae53534178b6168960df16fa4dab248581c23", func := "bivouac/bivouaclaw13.RouteGoes", spec := "routeGoes", unfollowed := true, recurses := true, apart := false, narrowed := true }
def RouteGoesUptoSaid : Prop := routeGoesUptoRow.holds Try.pinned (OpenSpec.upto routeGoesSpec)

/-- 'bivouaclaw13.RouteOpens', WHERE WHAT IT READS IS OF BULK AT MOST 1048576: true; the input reads as it did. -/
def routeOpensUptoRow : OpenClaim := { program := "ytmlpggggahpoaaa", sum := "62212145809a2c56182b456590eae53534178b6168960df16fa4dab248581c23", func := "bivouac/bivouaclaw13.RouteOpens", spec := "routeOpens", unfollowed := true, recurses := true, apart := false, narrowed := true }
def RouteOpensUptoSaid : Prop := routeOpensUptoRow.holds Try.pinned (OpenSpec.upto routeOpensSpec)

end Rows
end Go.Proofs.Ytmlpggggahpoaaa
