/-
  No cell of these rows narrows 'for every input' (looked for: loops, veiled, ifaces, maps, wideKeys, modest, calm, conditions, laid).
  DERIVED. THE GIVEN ROWS OF THIS SEAT. 4 by the template 'for every input the law returns true; each argument reads behind the call as it read before'; 0 by the template 'total and deterministic' (their statements: YtmpaaanbahfmcaaTotals.lean).
  GIVEN WITH THE SEED: the statements are not yours to turn. If you find one false, say at which input.
  Laid BY PROGRAM, IN A SANDBOX (cutbox-rows.mjs): the forced cells as the released guide's own fill.sh prints them over the translation c525876ba8506c35… (all of the seat's roots in one cut). By AI agents, Wed Nov 11 2026. No macro, syntax, notation, axiom, sorry.
-/
import Derived.Test.YtmpaaanbahfmcaaChecked
import GoSem.Claim
import GoSem.ClaimJoined
import GoSem.ClaimMapViews
import Derived.JoinedTies
import Derived.KernelRfl
namespace Go.Proofs.Ytmpaaanbahfmcaa
/- THE CELL 'sum', in the pinned program and in every row, IS THE sha256 OF THE DUMP (.gsa) THAT YtmpaaanbahfmcaaProg.lean LOADS. Nothing in Lean hashes anything: it is a label: what it is worth is what the hold of that sum in a sandbox is worth. -/
noncomputable def Try.pinned : Pinned := { name := "ytmpaaanbahfmcaa", sum := "c525876ba8506c35fa8693c3789657ec13faa64bccbc2845df68bb2bbb78e143", checked := Try.checked }
namespace Rows
def none {H : Type} : Left H := { results := [], args := [] }

/-- 'bivouaclaw11.ArenaTakes': WHATEVER THE INPUT: true; the input reads as it did. -/
def arenaTakesSpec : ChangeSpec := { name := "arenaTakes", fn := fun _ => fun
  | [d] => { results := [.lit (.bool true)], args := [d] }
  | _ => none }
def arenaTakesRow : OpenClaim := { program := "ytmpaaanbahfmcaa", sum := "c525876ba8506c35fa8693c3789657ec13faa64bccbc2845df68bb2bbb78e143", func := "bivouac/bivouaclaw11.ArenaTakes", spec := "arenaTakes", apart := false }
def ArenaTakesSaid : Prop := arenaTakesRow.holds Try.pinned (OpenSpec.ofChange arenaTakesSpec)

/-- ITS FALSE NEIGHBOUR: 'it returns false'. Refute it at one input. -/
def arenaTakesWrong : ChangeSpec := { name := "arenaTakes", fn := fun _ => fun
  | [d] => { results := [.lit (.bool false)], args := [d] }
  | _ => none }
def ArenaTakesWrongFalsely : Prop := arenaTakesRow.holds Try.pinned (OpenSpec.ofChange arenaTakesWrong)

/-- 'bivouaclaw11.ArenaFrees': WHATEVER THE INPUT: true; the input reads as it did. -/
def arenaFreesSpec : ChangeSpec := { name := "arenaFrees", fn := fun _ => fun
  | [d1, d2] => { results := [.lit (.bool true)], args := [d1, d2] }
  | _ => none }
def arenaFreesRow : OpenClaim := { program := "ytmpaaanbahfmcaa", sum := "c525876ba8506c35fa8693c3789657ec13faa64bccbc2845df68bb2bbb78e143", func := "bivouac/bivouaclaw11.ArenaFrees", spec := "arenaFrees", apart := false }
def ArenaFreesSaid : Prop := arenaFreesRow.holds Try.pinned (OpenSpec.ofChange arenaFreesSpec)

/-- ITS FALSE NEIGHBOUR: 'it returns false'. Refute it at one input. -/
def arenaFreesWrong : ChangeSpec := { name := "arenaFrees", fn := fun _ => fun
  | [d1, d2] => { results := [.lit (.bool false)], args := [d1, d2] }
  | _ => none }
def ArenaFreesWrongFalsely : Prop := arenaFreesRow.holds Try.pinned (OpenSpec.ofChange arenaFreesWrong)

/-- 'bivouaclaw11.ArenaTells': WHATEVER THE INPUT: true; the input reads as it did. -/
def arenaTellsSpec : ChangeSpec := { name := "arenaTells", fn := fun _ => fun
  | [d1, d2] => { results := [.lit (.bool true)], args := [d1, d2] }
  | _ => none }
def arenaTellsRow : OpenClaim := { program := "ytmpaaanbahfmcaa", sum := "c525876ba8506c35fa8693c3789657ec13faa64bccbc2845df68bb2bbb78e143", func := "bivouac/bivouaclaw11.ArenaTells", spec := "arenaTells", apart := false }
def ArenaTellsSaid : Prop := arenaTellsRow.holds Try.pinned (OpenSpec.ofChange arenaTellsSpec)

/-- ITS FALSE NEIGHBOUR: 'it returns false'. Refute it at one input. -/
def arenaTellsWrong : ChangeSpec := { name := "arenaTells", fn := fun _ => fun
  | [d1, d2] => { results := [.lit (.bool false)], args := [d1, d2] }
  | _ => none }
def ArenaTellsWrongFalsely : Prop := arenaTellsRow.holds Try.pinned (OpenSpec.ofChange arenaTellsWrong)

/-- 'bivouaclaw11.ArenaNever': WHATEVER THE INPUT: true; the input reads as it did. -/
def arenaNeverSpec : ChangeSpec := { name := "arenaNever", fn := fun _ => fun
  | [d] => { results := [.lit (.bool true)], args := [d] }
  | _ => none }
def arenaNeverRow : OpenClaim := { program := "ytmpaaanbahfmcaa", sum := "c525876ba8506c35fa8693c3789657ec13faa64bccbc2845df68bb2bbb78e143", func := "bivouac/bivouaclaw11.ArenaNever", spec := "arenaNever", apart := false }
def ArenaNeverSaid : Prop := arenaNeverRow.holds Try.pinned (OpenSpec.ofChange arenaNeverSpec)

/-- ITS FALSE NEIGHBOUR: 'it returns false'. Refute it at one input. -/
def arenaNeverWrong : ChangeSpec := { name := "arenaNever", fn := fun _ => fun
  | [d] => { results := [.lit (.bool false)], args := [d] }
  | _ => none }
def ArenaNeverWrongFalsely : Prop := arenaNeverRow.holds Try.pinned (OpenSpec.ofChange arenaNeverWrong)

/- THE SECOND FORM. 'bulk': how many values and letters a reading holds, each counted each time it is reached (what is shared counts as often as it is met; a slice's spare places count too). A statement '..UptoSaid' is the law's where the arguments, and the package variables that the reading takes, are together of bulk at most 1048576: NARROWER than '..Said'. Prove '..Said' where nothing that the law and all that it calls make is longer than what came in: it says more and counts as full. Else prove '..UptoSaid'. A law counts once. -/
mutual
def uptoBulk {H : Type} : DataW H → Nat
  | .lit (.string bytes) => bytes.length + 1
  | .lit _ => 1
  | .nil => 1
  | .ptr d => uptoBulk d + 1
  | .slice elems spare => uptoBulkAll elems + uptoBulkAll spare + 1
  | .agg parts => uptoBulkAll parts + 1
  | .iface _ d => uptoBulk d + 1
  | .map entries => uptoBulkEntries entries + 1
  | .held _ => 1
def uptoBulkAll {H : Type} : List (DataW H) → Nat
  | [] => 0
  | d :: r => uptoBulk d + uptoBulkAll r
def uptoBulkEntries {H : Type} : List (Lit × DataW H) → Nat
  | [] => 0
  | x :: r => uptoBulkEntry x + uptoBulkEntries r
def uptoBulkEntry {H : Type} : Lit × DataW H → Nat
  | (.string bytes, d) => bytes.length + uptoBulk d + 1
  | (_, d) => uptoBulk d + 1
 end
def uptoSmall : (H : Type) → List (DataW H) → Bool := fun _ ds => decide (uptoBulkAll ds ≤ 1048576)
def OpenSpec.upto (s : _root_.Go.ChangeSpec) : _root_.Go.OpenSpec := { _root_.Go.OpenSpec.ofChange s with cond := some uptoSmall }

/-- 'bivouaclaw11.ArenaTakes', WHERE WHAT IT READS IS OF BULK AT MOST 1048576: true; the input reads as it did. -/
def arenaTakesUptoRow : OpenClaim := { program := "ytmpaaanbahfmcaa", sum := "c525876ba8506c35fa8693c3789657ec13faa64bccbc2845df68bb2bbb78e143", func := "bivouac/bivouaclaw11.ArenaTakes", spec := "arenaTakes", apart := false, narrowed := true }
def ArenaTakesUptoSaid : Prop := arenaTakesUptoRow.holds Try.pinned (OpenSpec.upto arenaTakesSpec)

/-- 'bivouaclaw11.ArenaFrees', WHERE WHAT IT READS IS OF BULK AT MOST 1048576: true; the input reads as it did. -/
def arenaFreesUptoRow : OpenClaim := { program := "ytmpaaanbahfmcaa", sum := "c525876ba8506c35fa8693c3789657ec13faa64bccbc2845df68bb2bbb78e143", func := "bivouac/bivouaclaw11.ArenaFrees", spec := "arenaFrees", apart := false, narrowed := true }
def ArenaFreesUptoSaid : Prop := arenaFreesUptoRow.holds Try.pinned (OpenSpec.upto arenaFreesSpec)

/-- 'bivouaclaw11.ArenaTells', WHERE WHAT IT READS IS OF BULK AT MOST 1048576: true; the input reads as it did. -/
def arenaTellsUptoRow : OpenClaim := { program := "ytmpaaanbahfmcaa", sum := "c525876ba8506c35fa8693c3789657ec13faa64bccbc2845df68bb2bbb78e143", func := "bivouac/bivouaclaw11.ArenaTells", spec := "arenaTells", apart := false, narrowed := true }
def ArenaTellsUptoSaid : Prop := arenaTellsUptoRow.holds Try.pinned (OpenSpec.upto arenaTellsSpec)

/-- 'bivouaclaw11.ArenaNever', WHERE WHAT IT READS IS OF BULK AT MOST 1048576: true; the input reads as it did. -/
def arenaNeverUptoRow : OpenClaim := { program := "ytmpaaanbahfmcaa", sum := "c525876ba8506c35fa8693c3789657ec13faa64bccbc2845df68bb2bbb78e143", func := "bivouac/bivouaclaw11.ArenaNever", spec := "arenaNever", apart := false, narrowed := true }
def ArenaNeverUptoSaid : Prop := arenaNeverUptoRow.holds Try.pinned (OpenSpec.upto arenaNeverSpec)

end Rows
end Go.Proofs.Ytmpaaanbahfmcaa
