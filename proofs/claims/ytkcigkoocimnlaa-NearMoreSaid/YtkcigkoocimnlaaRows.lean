/-
  No cell of these rows narrows 'for every input' (looked for: loops, veiled, ifaces, maps, wideKeys, modest, calm, conditions, laid).
  DERIVED. THE GIVEN ROWS OF THIS SEAT. 4 by the template 'for every input the law returns true; each argument reads behind the call as it read before'; 0 by the template 'total and deterministic' (their statements: YtkcigkoocimnlaaTotals.lean).
  GIVEN WITH THE SEED: the statements are not yours to turn. If you find one false, say at which input.
  Laid BY PROGRAM, IN A SANDBOX (cutbox-rows.mjs): the forced cells as the released guide's own fill.sh prints them over the translation 3c29697fb62f5886… (all of the seat's roots in one cut). By AI agents, Wed Nov 11 2026. No macro, syntax, notation, axiom, sorry.
-/
import Derived.Test.YtkcigkoocimnlaaChecked
import GoSem.Claim
import GoSem.ClaimJoined
import GoSem.ClaimMapViews
import Derived.JoinedTies
import Derived.KernelRfl
namespace Go.Proofs.Ytkcigkoocimnlaa
/- THE CELL 'sum', in the pinned program and in every row, IS THE sha256 OF THE DUMP (.gsa) THAT YtkcigkoocimnlaaProg.lean LOADS. Nothing in Lean hashes anything: it is a label: what it is worth is what the hold of that sum in a sandbox is worth. -/
noncomputable def Try.pinned : Pinned := { name := "ytkcigkoocimnlaa", sum := "3c29697fb62f5886d1c900e774101acff5b186a3ee060ecc12d6bba6cdeeb73e", checked := Try.checked }
namespace Rows
def none {H : Type} : Left H := { results := [], args := [] }

/-- 'bivouaclaw12.NearWithin': WHATEVER THE INPUT: true; the input reads as it did. -/
def nearWithinSpec : ChangeSpec := { name := "nearWithin", fn := fun _ => fun
  | [d] => { results := [.lit (.bool true)], args := [d] }
  | _ => none }
def nearWithinRow : OpenClaim := { program := "ytkcigkoocimnlaa", sum := "3c29697fb62f5886d1c900e774101acff5b186a3ee060ecc12d6bba6cdeeb73e", func := "bivouac/bivouaclaw12.NearWithin", spec := "nearWithin", unfollowed := true, recurses := true, plainKeys := false, apart := false }
def NearWithinSaid : Prop := nearWithinRow.holds Try.pinned (OpenSpec.ofChange nearWithinSpec)

/-- ITS FALSE NEIGHBOUR: 'it returns false'. Refute it at one input. -/
def nearWithinWrong : ChangeSpec := { name := "nearWithin", fn := fun _ => fun
  | [d] => { results := [.lit (.bool false)], args := [d] }
  | _ => none }
def NearWithinWrongFalsely : Prop := nearWithinRow.holds Try.pinned (OpenSpec.ofChange nearWithinWrong)

/-- 'bivouaclaw12.NearNearest': WHATEVER THE INPUT: true; the input reads as it did. -/
def nearNearestSpec : ChangeSpec := { name := "nearNearest", fn := fun _ => fun
  | [d] => { results := [.lit (.bool true)], args := [d] }
  | _ => none }
def nearNearestRow : OpenClaim := { program := "ytkcigkoocimnlaa", sum := "3c29697fb62f5886d1c900e774101acff5b186a3ee060ecc12d6bba6cdeeb73e", func := "bivouac/bivouaclaw12.NearNearest", spec := "nearNearest", unfollowed := true, recurses := true, plainKeys := false, apart := false }
def NearNearestSaid : Prop := nearNearestRow.holds Try.pinned (OpenSpec.ofChange nearNearestSpec)

/-- ITS FALSE NEIGHBOUR: 'it returns false'. Refute it at one input. -/
def nearNearestWrong : ChangeSpec := { name := "nearNearest", fn := fun _ => fun
  | [d] => { results := [.lit (.bool false)], args := [d] }
  | _ => none }
def NearNearestWrongFalsely : Prop := nearNearestRow.holds Try.pinned (OpenSpec.ofChange nearNearestWrong)

/-- 'bivouaclaw12.NearPairs': WHATEVER THE INPUT: true; the input reads as it did. -/
def nearPairsSpec : ChangeSpec := { name := "nearPairs", fn := fun _ => fun
  | [d1, d2] => { results := [.lit (.bool true)], args := [d1, d2] }
  | _ => none }
def nearPairsRow : OpenClaim := { program := "ytkcigkoocimnlaa", sum := "3c29697fb62f5886d1c900e774101acff5b186a3ee060ecc12d6bba6cdeeb73e", func := "bivouac/bivouaclaw12.NearPairs", spec := "nearPairs", unfollowed := true, recurses := true, plainKeys := false, apart := false }
def NearPairsSaid : Prop := nearPairsRow.holds Try.pinned (OpenSpec.ofChange nearPairsSpec)

/-- ITS FALSE NEIGHBOUR: 'it returns false'. Refute it at one input. -/
def nearPairsWrong : ChangeSpec := { name := "nearPairs", fn := fun _ => fun
  | [d1, d2] => { results := [.lit (.bool false)], args := [d1, d2] }
  | _ => none }
def NearPairsWrongFalsely : Prop := nearPairsRow.holds Try.pinned (OpenSpec.ofChange nearPairsWrong)

/-- 'bivouaclaw12.NearMore': WHATEVER THE INPUT: true; the input reads as it did. -/
def nearMoreSpec : ChangeSpec := { name := "nearMore", fn := fun _ => fun
  | [d] => { results := [.lit (.bool true)], args := [d] }
  | _ => none }
def nearMoreRow : OpenClaim := { program := "ytkcigkoocimnlaa", sum := "3c29697fb62f5886d1c900e774101acff5b186a3ee060ecc12d6bba6cdeeb73e", func := "bivouac/bivouaclaw12.NearMore", spec := "nearMore", unfollowed := true, recurses := true, plainKeys := false, apart := false }
def NearMoreSaid : Prop := nearMoreRow.holds Try.pinned (OpenSpec.ofChange nearMoreSpec)

/-- ITS FALSE NEIGHBOUR: 'it returns false'. Refute it at one input. -/
def nearMoreWrong : ChangeSpec := { name := "nearMore", fn := fun _ => fun
  | [d] => { results := [.lit (.bool false)], args := [d] }
  | _ => none }
def NearMoreWrongFalsely : Prop := nearMoreRow.holds Try.pinned (OpenSpec.ofChange nearMoreWrong)

/- THE SECOND FORM. 'bulk': how many values and letters a reading holds, each counted each time it is reached (what is shared counts as often as it is met; a slice's spare places count too). A statement '..UptoSaid' is the law's where the arguments, and the package variables that the reading takes, are together of bulk at most 1048576: NARROWER than '..Said'. Prove '..Said' where nothing that the law and all that it calls make is longer than what came in: it says more and counts as full. Else prove '..UptoSaid'. A law counts once. -/
mutual
def uptoBulk {H : Type} : DataW H → Nat
  | .lit (.string bytes) => bytes.length + 1
  | .lit _ => 1
  | .nil => 1
  | .ptr d => uptoBulk d + 1
  | .slice elems spare => uptoBulkAll elems + uptoBulkAll spare + 1
  | .agg parts => uptoBulkAll parts + 1
  | .iface _ d => uptoBulk d + 1
  | .map entries => uptoBulkEntries entries + 1
  | .held _ => 1
def uptoBulkAll {H : Type} : List (DataW H) → Nat
  | [] => 0
  | d :: r => uptoBulk d + uptoBulkAll r
def uptoBulkEntries {H : Type} : List (Lit × DataW H) → Nat
  | [] => 0
  | x :: r => uptoBulkEntry x + uptoBulkEntries r
def uptoBulkEntry {H : Type} : Lit × DataW H → Nat
  | (.string bytes, d) => bytes.length + uptoBulk d + 1
  | (_, d) => uptoBulk d + 1
 end
def uptoSmall : (H : Type) → List (DataW H) → Bool := fun _ ds => decide (uptoBulkAll ds ≤ 1048576)
def OpenSpec.upto (s : _root_.Go.ChangeSpec) : _root_.Go.OpenSpec := { _root_.Go.OpenSpec.ofChange s with cond := some uptoSmall }

/-- 'bivouaclaw12.NearWithin', WHERE WHAT IT READS IS OF BULK AT MOST 1048576: true; the input reads as it did. -/
def nearWithinUptoRow : OpenClaim := { program := "ytkcigkoocimnlaa", sum := "3c29697fb62f5886d1c900e774101acff5b186a3ee060ecc12d6bba6cdeeb73e", func := "bivouac/bivouaclaw12.NearWithin", spec := "nearWithin", unfollowed := true, recurses := true, plainKeys := false, apart := false, narrowed := true }
def NearWithinUptoSaid : Prop := nearWithinUptoRow.holds Try.pinned (OpenSpec.upto nearWithinSpec)

/-- 'bivouaclaw12.NearNearest', WHERE WHAT IT READS IS OF BULK AT MOST 1048576: true; the input reads as it did. -/
def nearNearestUptoRow : OpenClaim := { program := "ytkcigkoocimnlaa", sum := "3c29697fb62f5886d1c900e774101acff5b186a3ee060ecc12d6bba6cdeeb73e", func := "bivouac/bivouaclaw12.NearNearest", spec := "nearNearest", unfollowed := true, recurses := true, plainKeys := false, apart := false, narrowed := true }
def NearNearestUptoSaid : Prop := nearNearestUptoRow.holds Try.pinned (OpenSpec.upto nearNearestSpec)

/-- 'bivouaclaw12.NearPairs', WHERE WHAT IT READS IS OF BULK AT MOST 1048576: true; the input reads as it did. -/
def nearPairsUptoRow : OpenClaim := { program := "ytkcigkoocimnlaa", sum := "3c29697fb62f5886d1c900e774101acff5b186a3ee060ecc12d6bba6cdeeb73e", func := "bivouac/bivouaclaw12.NearPairs", spec := "nearPairs", unfollowed := true, recurses := true, plainKeys := false, apart := false, narrowed := true }
def NearPairsUptoSaid : Prop := nearPairsUptoRow.holds Try.pinned (OpenSpec.upto nearPairsSpec)

/-- 'bivouaclaw12.NearMore', WHERE WHAT IT READS IS OF BULK AT MOST 1048576: true; the input reads as it did. -/
def nearMoreUptoRow : OpenClaim := { program := "ytkcigkoocimnlaa", sum := "3c29697fb62f5886d1c900e774101acff5b186a3ee060ecc12d6bba6cdeeb73e", func := "bivouac/bivouaclaw12.NearMore", spec := "nearMore", unfollowed := true, recurses := true, plainKeys := false, apart := false, narrowed := true }
def NearMoreUptoSaid : Prop := nearMoreUptoRow.holds Try.pinned (OpenSpec.upto nearMoreSpec)

end Rows
end Go.Proofs.Ytkcigkoocimnlaa
