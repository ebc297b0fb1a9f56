/-
  No cell of these rows narrows 'for every input' (looked for: loops, veiled, ifaces, maps, wideKeys, modest, calm, conditions, laid).
  DERIVED. THE GIVEN ROWS OF THIS SEAT. 5 by the template 'for every input the law returns true; each argument reads behind the call as it read before'; 0 by the template 'total and deterministic' (their statements: YtodnecfgiimclaaTotals.lean).
  GIVEN WITH THE SEED: the statements are not yours to turn. If you find one false, say at which input.
  Laid BY PROGRAM, IN A SANDBOX (cutbox-rows.mjs): the forced cells as the released guide's own fill.sh prints them over the translation b36f65a0cf905f7c… (all of the seat's roots in one cut). By AI agents, Wed Nov 11 2026. No macro, syntax, notation, axiom, sorry.
-/
import Derived.Test.YtodnecfgiimclaaChecked
import GoSem.Claim
import GoSem.ClaimJoined
import GoSem.ClaimMapViews
import Derived.JoinedTies
import Derived.KernelRfl
namespace Go.Proofs.Ytodnecfgiimclaa
/- THE CELL 'sum', in the pinned program and in every row, IS THE sha256 OF THE DUMP (.gsa) THAT YtodnecfgiimclaaProg.lean LOADS. Nothing in Lean hashes anything: it is a label: what it is worth is what the hold of that sum in a sandbox is worth. -/
noncomputable def Try.pinned : Pinned := { name := "ytodnecfgiimclaa", sum := "b36f65a0cf905f7c753a4a06bd2da172fa1303fe6159e65e151c4e554ff1faee", checked := Try.checked }
namespace Rows
def none {H : Type} : Left H := { results := [], args := [] }

/-- 'bivouaclaw25.TurnsLive': WHATEVER THE INPUT: true; the input reads as it did. -/
def turnsLiveSpec : ChangeSpec := { name := "turnsLive", fn := fun _ => fun
  | [d1, d2, d3] => { results := [.lit (.bool true)], args := [d1, d2, d3] }
  | _ => none }
def turnsLiveRow : OpenClaim := { program := "ytodnecfgiimclaa", sum := "b36f65a0cf905f7c753a4a06bd2da172fa1303fe6159e65e151c4e554ff1faee", func := "bivouac/bivouaclaw25.TurnsLive", spec := "turnsLive", plainKeys := false, apart := false }
def TurnsLiveSaid : Prop := turnsLiveRow.holds Try.pinned (OpenSpec.ofChange turnsLiveSpec)

/-- ITS FALSE NEIGHBOUR: 'it returns false'. Refute it at one input. -/
def turnsLiveWrong : ChangeSpec := { name := "turnsLive", fn := fun _ => fun
  | [d1, d2, d3] => { results := [.lit (.bool false)], args := [d1, d2, d3] }
  | _ => none }
def TurnsLiveWrongFalsely : Prop := turnsLiveRow.holds Try.pinned (OpenSpec.ofChange turnsLiveWrong)

/-- 'bivouaclaw25.TurnsAgree': WHATEVER THE INPUT: true; the input reads as it did. -/
def turnsAgreeSpec : ChangeSpec := { name := "turnsAgree", fn := fun _ => fun
  | [d1, d2] => { results := [.lit (.bool true)], args := [d1, d2] }
  | _ => none }
def turnsAgreeRow : OpenClaim := { program := "ytodnecfgiimclaa", sum := "b36f65a0cf905f7c753a4a06bd2da172fa1303fe6159e65e151c4e554ff1faee", func := "bivouac/bivouaclaw25.TurnsAgree", spec := "turnsAgree", plainKeys := false, apart := false }
def TurnsAgreeSaid : Prop := turnsAgreeRow.holds Try.pinned (OpenSpec.ofChange turnsAgreeSpec)

/-- ITS FALSE NEIGHBOUR: 'it returns false'. Refute it at one input. -/
def turnsAgreeWrong : ChangeSpec := { name := "turnsAgree", fn := fun _ => fun
  | [d1, d2] => { results := [.lit (.bool false)], args := [d1, d2] }
  | _ => none }
def TurnsAgreeWrongFalsely : Prop := turnsAgreeRow.holds Try.pinned (OpenSpec.ofChange turnsAgreeWrong)

/-- 'bivouaclaw25.TurnsNews': WHATEVER THE INPUT: true; the input reads as it did. -/
def turnsNewsSpec : ChangeSpec := { name := "turnsNews", fn := fun _ => fun
  | [d1, d2, d3] => { results := [.lit (.bool true)], args := [d1, d2, d3] }
  | _ => none }
def turnsNewsRow : OpenClaim := { program := "ytodnecfgiimclaa", sum := "b36f65a0cf905f7c753a4a06bd2da172fa1303fe6159e65e151c4e554ff1faee", func := "bivouac/bivouaclaw25.TurnsNews", spec := "turnsNews", plainKeys := false, apart := false }
def TurnsNewsSaid : Prop := turnsNewsRow.holds Try.pinned (OpenSpec.ofChange turnsNewsSpec)

/-- ITS FALSE NEIGHBOUR: 'it returns false'. Refute it at one input. -/
def turnsNewsWrong : ChangeSpec := { name := "turnsNews", fn := fun _ => fun
  | [d1, d2, d3] => { results := [.lit (.bool false)], args := [d1, d2, d3] }
  | _ => none }
def TurnsNewsWrongFalsely : Prop := turnsNewsRow.holds Try.pinned (OpenSpec.ofChange turnsNewsWrong)

/-- 'bivouaclaw25.TurnsTells': WHATEVER THE INPUT: true; the input reads as it did. -/
def turnsTellsSpec : ChangeSpec := { name := "turnsTells", fn := fun _ => fun
  | [d1, d2] => { results := [.lit (.bool true)], args := [d1, d2] }
  | _ => none }
def turnsTellsRow : OpenClaim := { program := "ytodnecfgiimclaa", sum := "b36f65a0cf905f7c753a4a06bd2da172fa1303fe6159e65e151c4e554ff1faee", func := "bivouac/bivouaclaw25.TurnsTells", spec := "turnsTells", plainKeys := false, apart := false }
def TurnsTellsSaid : Prop := turnsTellsRow.holds Try.pinned (OpenSpec.ofChange turnsTellsSpec)

/-- ITS FALSE NEIGHBOUR: 'it returns false'. Refute it at one input. -/
def turnsTellsWrong : ChangeSpec := { name := "turnsTells", fn := fun _ => fun
  | [d1, d2] => { results := [.lit (.bool false)], args := [d1, d2] }
  | _ => none }
def TurnsTellsWrongFalsely : Prop := turnsTellsRow.holds Try.pinned (OpenSpec.ofChange turnsTellsWrong)

/-- 'bivouaclaw25.TurnsPlays': WHATEVER THE INPUT: true; the input reads as it did. -/
def turnsPlaysSpec : ChangeSpec := { name := "turnsPlays", fn := fun _ => fun
  | [d1, d2] => { results := [.lit (.bool true)], args := [d1, d2] }
  | _ => none }
def turnsPlaysRow : OpenClaim := { program := "ytodnecfgiimclaa", sum := "b36f65a0cf905f7c753a4a06bd2da172fa1303fe6159e65e151c4e554ff1faee", func := "bivouac/bivouaclaw25.TurnsPlays", spec := "turnsPlays", plainKeys := false, apart := false }
def TurnsPlaysSaid : Prop := turnsPlaysRow.holds Try.pinned (OpenSpec.ofChange turnsPlaysSpec)

/-- ITS FALSE NEIGHBOUR: 'it returns false'. Refute it at one input. -/
def turnsPlaysWrong : ChangeSpec := { name := "turnsPlays", fn := fun _ => fun
  | [d1, d2] => { results := [.lit (.bool false)], args := [d1, d2] }
  | _ => none }
def TurnsPlaysWrongFalsely : Prop := turnsPlaysRow.holds Try.pinned (OpenSpec.ofChange turnsPlaysWrong)

/- THE SECOND FORM. 'bulk': how many values and letters a reading holds, each counted each time it is reached (what is shared counts as often as it is met; a slice's spare places count too). A statement '..UptoSaid' is the law's where the arguments, and the package variables that the reading takes, are together of bulk at most 1048576: NARROWER than '..Said'. Prove '..Said' where nothing that the law and all that it calls make is longer than what came in: it says more and counts as full. Else prove '..UptoSaid'. A law counts once. -/
mutual
def uptoBulk {H : Type} : DataW H → Nat
  | .lit (.string bytes) => bytes.length + 1
  | .lit _ => 1
  | .nil => 1
  | .ptr d => uptoBulk d + 1
  | .slice elems spare => uptoBulkAll elems + uptoBulkAll spare + 1
  | .agg parts => uptoBulkAll parts + 1
  | .iface _ d => uptoBulk d + 1
  | .map entries => uptoBulkEntries entries + 1
  | .held _ => 1
def uptoBulkAll {H : Type} : List (DataW H) → Nat
  | [] => 0
  | d :: r => uptoBulk d + uptoBulkAll r
def uptoBulkEntries {H : Type} : List (Lit × DataW H) → Nat
  | [] => 0
  | x :: r => uptoBulkEntry x + uptoBulkEntries r
def uptoBulkEntry {H : Type} : Lit × DataW H → Nat
  | (.string bytes, d) => bytes.length + uptoBulk d + 1
  | (_, d) => uptoBulk d + 1
 end
def uptoSmall : (H : Type) → List (DataW H) → Bool := fun _ ds => decide (uptoBulkAll ds ≤ 1048576)
def OpenSpec.upto (s : _root_.Go.ChangeSpec) : _root_.Go.OpenSpec := { _root_.Go.OpenSpec.ofChange s with cond := some uptoSmall }

/-- 'bivouaclaw25.TurnsLive', WHERE WHAT IT READS IS OF BULK AT MOST 1048576: true; the input reads as it did. -/
def turnsLiveUptoRow : OpenClaim := { program := "ytodnecfgiimclaa", sum := "b36f65a0cf905f7c753a4a06bd2da172fa1303fe6159e65e151c4e554ff1faee", func := "bivouac/bivouaclaw25.TurnsLive", spec := "turnsLive", plainKeys := false, apart := false, narrowed := true }
def TurnsLiveUptoSaid : Prop := turnsLiveUptoRow.holds Try.pinned (OpenSpec.upto turnsLiveSpec)

/-- 'bivouaclaw25.TurnsAgree', WHERE WHAT IT READS IS OF BULK AT MOST 1048576: true; the input reads as it did. -/
def turnsAgreeUptoRow : OpenClaim := { program := "ytodnecfgiimclaa", sum := "b36f65a0cf905f7c753a4a06bd2da172fa1303fe6159e65e151c4e554ff1faee", func := "bivouac/bivouaclaw25.TurnsAgree", spec := "turnsAgree", plainKeys := false, apart := false, narrowed := true }
def TurnsAgreeUptoSaid : Prop := turnsAgreeUptoRow.holds Try.pinned (OpenSpec.upto turnsAgreeSpec)

/-- 'bivouaclaw25.TurnsNews', WHERE WHAT IT READS IS OF BULK AT MOST 1048576: true; the input reads as it did. -/
def turnsNewsUptoRow : OpenClaim := { program := "ytodnecfgiimclaa", sum := "b36f65a0cf905f7c753a4a06bd2da172fa1303fe6159e65e151c4e554ff1faee", func := "bivouac/bivouaclaw25.TurnsNews", spec := "turnsNews", plainKeys := false, apart := false, narrowed := true }
def TurnsNewsUptoSaid : Prop := turnsNewsUptoRow.holds Try.pinned (OpenSpec.upto turnsNewsSpec)

/-- 'bivouaclaw25.TurnsTells', WHERE WHAT IT READS IS OF BULK AT MOST 1048576: true; the input reads as it did. -/
def turnsTellsUptoRow : OpenClaim := { program := "ytodnecfgiimclaa", sum := "b36f65a0cf905f7c753a4a06bd2da172fa1303fe6159e65e151c4e554ff1faee", func := "bivouac/bivouaclaw25.TurnsTells", spec := "turnsTells", plainKeys := false, apart := false, narrowed := true }
def TurnsTellsUptoSaid : Prop := turnsTellsUptoRow.holds Try.pinned (OpenSpec.upto turnsTellsSpec)

/-- 'bivouaclaw25.TurnsPlays', WHERE WHAT IT READS IS OF BULK AT MOST 1048576: true; the input reads as it did. -/
def turnsPlaysUptoRow : OpenClaim := { program := "ytodnecfgiimclaa", sum := "b36f65a0cf905f7c753a4a06bd2da172fa1303fe6159e65e151c4e554ff1faee", func := "bivouac/bivouaclaw25.TurnsPlays", spec := "turnsPlays", plainKeys := false, apart := false, narrowed := true }
def TurnsPlaysUptoSaid : Prop := turnsPlaysUptoRow.holds Try.pinned (OpenSpec.upto turnsPlaysSpec)

end Rows
end Go.Proofs.Ytodnecfgiimclaa
