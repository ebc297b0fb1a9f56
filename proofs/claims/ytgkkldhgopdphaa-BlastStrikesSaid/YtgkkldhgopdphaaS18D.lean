/- Seat 18: the chapter's examples, and the laws BlastHurts and BlastFarther, walked. -/
import Derived.Test.YtgkkldhgopdphaaEngX
import Derived.Test.YtgkkldhgopdphaaS18C
set_option linter.unusedSimpArgs false
set_option linter.unusedVariables false
namespace Go.Eng.S18
open Go.Proofs Go.IntWalk
set_option maxRecDepth 10000

def sAwake : Spec := fun args _ _ => match args with
  | [] => some ⟨[], .bool true, [], []⟩
  | _ => none
theorem awake_ok : SpecOK Try.prog 9 sAwake := by
  refine spec_own (by kernel_rfl) T_ok (sget_cons strike_ok (sget_cons hurts_ok sget_nil)) Try.func9 rfl rfl fun args hr nb out e => ?_
  unfold sAwake at e
  split at e
  · injection e with e; subst e
    refine ⟨(fun _ h => nomatch h), true, [], rfl, fun hs => ⟨.nil, ?_⟩⟩
    refine evC_go0 (dec := []) (ks := [(0, 0)]) (s' := ⟨[(0, 0, Cont.cell (AV.bool false))], 9, 63⟩) (by kernel_rfl) (by kernel_rfl) ?_
    refine evC_go0 (dec := []) (ks := [(0, 0), (0, 1), (17, 0), (17, 1), (17, 2), (17, 3), (17, 4)]) (s' := ⟨[(0, 0, Cont.cell (AV.bool false)), (0, 1, Cont.cell (AV.ptr 17 0)), (17, 0, Cont.cell (AV.int IntKind.i64 0)), (17, 1, Cont.cell (AV.int IntKind.i64 0)), (17, 2, Cont.cell (AV.int IntKind.i64 100)), (17, 3, Cont.cell (AV.int IntKind.i64 2)), (17, 4, Cont.top)], 33, 63⟩) (by kernel_rfl) (by kernel_rfl) ?_
    refine evC_go (dec := []) (ks := [(0, 0), (0, 1), (0, 2), (0, 3), (0, 4), (17, 0), (17, 1), (17, 2), (17, 3), (17, 4), (73, 0), (74, 0)]) (ps := [(∀ (i : Nat), i < (2 : Nat) → pget [((0 : Nat), AV.agg ([AV.int IntKind.i64 (0 : Int), AV.int IntKind.i64 (0 : Int)] ++ AV.cells (AV.int IntKind.i64 (80 : Int)) ++ [])), ((1 : Nat), AV.agg ([AV.int IntKind.i64 (65536 : Int), AV.int IntKind.i64 (0 : Int)] ++ AV.cells (AV.int IntKind.i64 (80 : Int)) ++ []))] i = bodyC (pget [((0 : Nat), AV.agg ([AV.int IntKind.i64 (0 : Int), AV.int IntKind.i64 (0 : Int)] ++ AV.cells (AV.int IntKind.i64 (80 : Int)) ++ [])), ((1 : Nat), AV.agg ([AV.int IntKind.i64 (65536 : Int), AV.int IntKind.i64 (0 : Int)] ++ AV.cells (AV.int IntKind.i64 (80 : Int)) ++ []))]) i) ∧ (∀ (i : Nat), i < (1 : Nat) → pget [((0 : Nat), AV.agg [AV.int IntKind.i64 (0 : Int), AV.int IntKind.i64 (0 : Int), AV.int IntKind.i64 (100 : Int), AV.int IntKind.i64 (2 : Int)])] i = blowC (pget [((0 : Nat), AV.agg [AV.int IntKind.i64 (0 : Int), AV.int IntKind.i64 (0 : Int), AV.int IntKind.i64 (100 : Int), AV.int IntKind.i64 (2 : Int)])]) i) ∧ (2 : Nat) ≤ maxLen ∧ (1 : Nat) ≤ maxLen]) (s' := ⟨[(0, 0, Cont.cell (AV.bool false)), (0, 1, Cont.cell (AV.ptr 17 0)), (0, 2, Cont.cell (AV.vs 73)), (0, 3, Cont.cell (AV.vs 74)), (0, 4, Cont.cell (AV.int IntKind.i64 (errF (okAll 2 (pget [(0, AV.agg ([AV.int IntKind.i64 0, AV.int IntKind.i64 0] ++ AV.cells (AV.int IntKind.i64 80) ++ [])), (1, AV.agg ([AV.int IntKind.i64 65536, AV.int IntKind.i64 0] ++ AV.cells (AV.int IntKind.i64 80) ++ []))]) 1 (pget [(0, AV.agg [AV.int IntKind.i64 0, AV.int IntKind.i64 0, AV.int IntKind.i64 100, AV.int IntKind.i64 2])]))))), (17, 0, Cont.cell (AV.int IntKind.i64 0)), (17, 1, Cont.cell (AV.int IntKind.i64 0)), (17, 2, Cont.cell (AV.int IntKind.i64 100)), (17, 3, Cont.cell (AV.int IntKind.i64 2)), (17, 4, Cont.top), (73, 0, Cont.vec 3 38 2 (outC (pget [(0, AV.agg ([AV.int IntKind.i64 0, AV.int IntKind.i64 0] ++ AV.cells (AV.int IntKind.i64 80) ++ [])), (1, AV.agg ([AV.int IntKind.i64 65536, AV.int IntKind.i64 0] ++ AV.cells (AV.int IntKind.i64 80) ++ []))]) (pget [(0, AV.agg [AV.int IntKind.i64 0, AV.int IntKind.i64 0, AV.int IntKind.i64 100, AV.int IntKind.i64 2])]) 1)), (74, 0, Cont.vec 1 3 1 (lst (deadL (pget [(0, AV.agg ([AV.int IntKind.i64 0, AV.int IntKind.i64 0] ++ AV.cells (AV.int IntKind.i64 80) ++ [])), (1, AV.agg ([AV.int IntKind.i64 65536, AV.int IntKind.i64 0] ++ AV.cells (AV.int IntKind.i64 80) ++ []))]) (pget [(0, AV.agg [AV.int IntKind.i64 0, AV.int IntKind.i64 0, AV.int IntKind.i64 100, AV.int IntKind.i64 2])]) 1 2)))], 137, 63⟩) (by kernel_rfl) (by kernel_rfl) ?_ ?_
    · refine ⟨fun i hi => ?_, fun i hi => ?_, by unfold maxLen; omega, by unfold maxLen; omega⟩
      · rcases (by omega : i = 0 ∨ i = 1) with rfl | rfl <;> rfl
      · have : i = 0 := by omega
        subst this; rfl
    refine evC_go (dec := []) (ks := [(0, 0)]) (ps := [List.all [bif bif bif hurtsF (0 : Int) (0 : Int) (100 : Int) (2 : Int) (0 : Int) (0 : Int) == (100 : Int) then hurtsF (0 : Int) (0 : Int) (100 : Int) (2 : Int) (65536 : Int) (0 : Int) == (75 : Int) else false then hurtsF (0 : Int) (0 : Int) (100 : Int) (2 : Int) (131072 : Int) (0 : Int) == (0 : Int) else false then (↑(2 : Nat) : Int) == (2 : Int) else false] id = true → (0 : Int) ≤ (0 : Int), List.all [bif bif bif hurtsF (0 : Int) (0 : Int) (100 : Int) (2 : Int) (0 : Int) (0 : Int) == (100 : Int) then hurtsF (0 : Int) (0 : Int) (100 : Int) (2 : Int) (65536 : Int) (0 : Int) == (75 : Int) else false then hurtsF (0 : Int) (0 : Int) (100 : Int) (2 : Int) (131072 : Int) (0 : Int) == (0 : Int) else false then (↑(2 : Nat) : Int) == (2 : Int) else false] id = true → (0 : Int) < (↑(2 : Nat) : Int), List.all [bif bif bif hurtsF (0 : Int) (0 : Int) (100 : Int) (2 : Int) (0 : Int) (0 : Int) == (100 : Int) then hurtsF (0 : Int) (0 : Int) (100 : Int) (2 : Int) (65536 : Int) (0 : Int) == (75 : Int) else false then hurtsF (0 : Int) (0 : Int) (100 : Int) (2 : Int) (131072 : Int) (0 : Int) == (0 : Int) else false then (↑(2 : Nat) : Int) == (2 : Int) else false] id = true → (3 : Nat) = (3 : Nat), List.all [bif bif bif hurtsF (0 : Int) (0 : Int) (100 : Int) (2 : Int) (0 : Int) (0 : Int) == (100 : Int) then hurtsF (0 : Int) (0 : Int) (100 : Int) (2 : Int) (65536 : Int) (0 : Int) == (75 : Int) else false then hurtsF (0 : Int) (0 : Int) (100 : Int) (2 : Int) (131072 : Int) (0 : Int) == (0 : Int) else false then (↑(2 : Nat) : Int) == (2 : Int) else false] id = true → (0 : Int) ≤ (0 : Int), List.all [bif bif bif hurtsF (0 : Int) (0 : Int) (100 : Int) (2 : Int) (0 : Int) (0 : Int) == (100 : Int) then hurtsF (0 : Int) (0 : Int) (100 : Int) (2 : Int) (65536 : Int) (0 : Int) == (75 : Int) else false then hurtsF (0 : Int) (0 : Int) (100 : Int) (2 : Int) (131072 : Int) (0 : Int) == (0 : Int) else false then (↑(2 : Nat) : Int) == (2 : Int) else false] id = true → (0 : Int) < (↑(2 : Nat) : Int), List.all [bif bif bif hurtsF (0 : Int) (0 : Int) (100 : Int) (2 : Int) (0 : Int) (0 : Int) == (100 : Int) then hurtsF (0 : Int) (0 : Int) (100 : Int) (2 : Int) (65536 : Int) (0 : Int) == (75 : Int) else false then hurtsF (0 : Int) (0 : Int) (100 : Int) (2 : Int) (131072 : Int) (0 : Int) == (0 : Int) else false then (↑(2 : Nat) : Int) == (2 : Int) else false] id = true → (3 : Nat) = (3 : Nat), List.all [bif bif bif bif hurtsF (0 : Int) (0 : Int) (100 : Int) (2 : Int) (0 : Int) (0 : Int) == (100 : Int) then hurtsF (0 : Int) (0 : Int) (100 : Int) (2 : Int) (65536 : Int) (0 : Int) == (75 : Int) else false then hurtsF (0 : Int) (0 : Int) (100 : Int) (2 : Int) (131072 : Int) (0 : Int) == (0 : Int) else false then (↑(2 : Nat) : Int) == (2 : Int) else false then lf (pget [((0 : Nat), AV.agg [AV.int IntKind.i64 (0 : Int), AV.int IntKind.i64 (0 : Int), AV.int IntKind.i64 (100 : Int), AV.int IntKind.i64 (2 : Int)])]) (1 : Nat) (pget [((0 : Nat), AV.agg ([AV.int IntKind.i64 (0 : Int), AV.int IntKind.i64 (0 : Int)] ++ AV.cells (AV.int IntKind.i64 (80 : Int)) ++ [])), ((1 : Nat), AV.agg ([AV.int IntKind.i64 (65536 : Int), AV.int IntKind.i64 (0 : Int)] ++ AV.cells (AV.int IntKind.i64 (80 : Int)) ++ []))] (Int.toNat (0 : Int))) == (0 : Int) else false] id = true → (0 : Int) ≤ (1 : Int), List.all [bif bif bif bif hurtsF (0 : Int) (0 : Int) (100 : Int) (2 : Int) (0 : Int) (0 : Int) == (100 : Int) then hurtsF (0 : Int) (0 : Int) (100 : Int) (2 : Int) (65536 : Int) (0 : Int) == (75 : Int) else false then hurtsF (0 : Int) (0 : Int) (100 : Int) (2 : Int) (131072 : Int) (0 : Int) == (0 : Int) else false then (↑(2 : Nat) : Int) == (2 : Int) else false then lf (pget [((0 : Nat), AV.agg [AV.int IntKind.i64 (0 : Int), AV.int IntKind.i64 (0 : Int), AV.int IntKind.i64 (100 : Int), AV.int IntKind.i64 (2 : Int)])]) (1 : Nat) (pget [((0 : Nat), AV.agg ([AV.int IntKind.i64 (0 : Int), AV.int IntKind.i64 (0 : Int)] ++ AV.cells (AV.int IntKind.i64 (80 : Int)) ++ [])), ((1 : Nat), AV.agg ([AV.int IntKind.i64 (65536 : Int), AV.int IntKind.i64 (0 : Int)] ++ AV.cells (AV.int IntKind.i64 (80 : Int)) ++ []))] (Int.toNat (0 : Int))) == (0 : Int) else false] id = true → (1 : Int) < (↑(2 : Nat) : Int), List.all [bif bif bif bif hurtsF (0 : Int) (0 : Int) (100 : Int) (2 : Int) (0 : Int) (0 : Int) == (100 : Int) then hurtsF (0 : Int) (0 : Int) (100 : Int) (2 : Int) (65536 : Int) (0 : Int) == (75 : Int) else false then hurtsF (0 : Int) (0 : Int) (100 : Int) (2 : Int) (131072 : Int) (0 : Int) == (0 : Int) else false then (↑(2 : Nat) : Int) == (2 : Int) else false then lf (pget [((0 : Nat), AV.agg [AV.int IntKind.i64 (0 : Int), AV.int IntKind.i64 (0 : Int), AV.int IntKind.i64 (100 : Int), AV.int IntKind.i64 (2 : Int)])]) (1 : Nat) (pget [((0 : Nat), AV.agg ([AV.int IntKind.i64 (0 : Int), AV.int IntKind.i64 (0 : Int)] ++ AV.cells (AV.int IntKind.i64 (80 : Int)) ++ [])), ((1 : Nat), AV.agg ([AV.int IntKind.i64 (65536 : Int), AV.int IntKind.i64 (0 : Int)] ++ AV.cells (AV.int IntKind.i64 (80 : Int)) ++ []))] (Int.toNat (0 : Int))) == (0 : Int) else false] id = true → (3 : Nat) = (3 : Nat), List.all [bif bif bif bif hurtsF (0 : Int) (0 : Int) (100 : Int) (2 : Int) (0 : Int) (0 : Int) == (100 : Int) then hurtsF (0 : Int) (0 : Int) (100 : Int) (2 : Int) (65536 : Int) (0 : Int) == (75 : Int) else false then hurtsF (0 : Int) (0 : Int) (100 : Int) (2 : Int) (131072 : Int) (0 : Int) == (0 : Int) else false then (↑(2 : Nat) : Int) == (2 : Int) else false then lf (pget [((0 : Nat), AV.agg [AV.int IntKind.i64 (0 : Int), AV.int IntKind.i64 (0 : Int), AV.int IntKind.i64 (100 : Int), AV.int IntKind.i64 (2 : Int)])]) (1 : Nat) (pget [((0 : Nat), AV.agg ([AV.int IntKind.i64 (0 : Int), AV.int IntKind.i64 (0 : Int)] ++ AV.cells (AV.int IntKind.i64 (80 : Int)) ++ [])), ((1 : Nat), AV.agg ([AV.int IntKind.i64 (65536 : Int), AV.int IntKind.i64 (0 : Int)] ++ AV.cells (AV.int IntKind.i64 (80 : Int)) ++ []))] (Int.toNat (0 : Int))) == (0 : Int) else false] id = true → (0 : Int) ≤ (1 : Int), List.all [bif bif bif bif hurtsF (0 : Int) (0 : Int) (100 : Int) (2 : Int) (0 : Int) (0 : Int) == (100 : Int) then hurtsF (0 : Int) (0 : Int) (100 : Int) (2 : Int) (65536 : Int) (0 : Int) == (75 : Int) else false then hurtsF (0 : Int) (0 : Int) (100 : Int) (2 : Int) (131072 : Int) (0 : Int) == (0 : Int) else false then (↑(2 : Nat) : Int) == (2 : Int) else false then lf (pget [((0 : Nat), AV.agg [AV.int IntKind.i64 (0 : Int), AV.int IntKind.i64 (0 : Int), AV.int IntKind.i64 (100 : Int), AV.int IntKind.i64 (2 : Int)])]) (1 : Nat) (pget [((0 : Nat), AV.agg ([AV.int IntKind.i64 (0 : Int), AV.int IntKind.i64 (0 : Int)] ++ AV.cells (AV.int IntKind.i64 (80 : Int)) ++ [])), ((1 : Nat), AV.agg ([AV.int IntKind.i64 (65536 : Int), AV.int IntKind.i64 (0 : Int)] ++ AV.cells (AV.int IntKind.i64 (80 : Int)) ++ []))] (Int.toNat (0 : Int))) == (0 : Int) else false] id = true → (1 : Int) < (↑(2 : Nat) : Int), List.all [bif bif bif bif hurtsF (0 : Int) (0 : Int) (100 : Int) (2 : Int) (0 : Int) (0 : Int) == (100 : Int) then hurtsF (0 : Int) (0 : Int) (100 : Int) (2 : Int) (65536 : Int) (0 : Int) == (75 : Int) else false then hurtsF (0 : Int) (0 : Int) (100 : Int) (2 : Int) (131072 : Int) (0 : Int) == (0 : Int) else false then (↑(2 : Nat) : Int) == (2 : Int) else false then lf (pget [((0 : Nat), AV.agg [AV.int IntKind.i64 (0 : Int), AV.int IntKind.i64 (0 : Int), AV.int IntKind.i64 (100 : Int), AV.int IntKind.i64 (2 : Int)])]) (1 : Nat) (pget [((0 : Nat), AV.agg ([AV.int IntKind.i64 (0 : Int), AV.int IntKind.i64 (0 : Int)] ++ AV.cells (AV.int IntKind.i64 (80 : Int)) ++ [])), ((1 : Nat), AV.agg ([AV.int IntKind.i64 (65536 : Int), AV.int IntKind.i64 (0 : Int)] ++ AV.cells (AV.int IntKind.i64 (80 : Int)) ++ []))] (Int.toNat (0 : Int))) == (0 : Int) else false] id = true → (3 : Nat) = (3 : Nat), List.all [bif bif bif bif bif bif hurtsF (0 : Int) (0 : Int) (100 : Int) (2 : Int) (0 : Int) (0 : Int) == (100 : Int) then hurtsF (0 : Int) (0 : Int) (100 : Int) (2 : Int) (65536 : Int) (0 : Int) == (75 : Int) else false then hurtsF (0 : Int) (0 : Int) (100 : Int) (2 : Int) (131072 : Int) (0 : Int) == (0 : Int) else false then (↑(2 : Nat) : Int) == (2 : Int) else false then lf (pget [((0 : Nat), AV.agg [AV.int IntKind.i64 (0 : Int), AV.int IntKind.i64 (0 : Int), AV.int IntKind.i64 (100 : Int), AV.int IntKind.i64 (2 : Int)])]) (1 : Nat) (pget [((0 : Nat), AV.agg ([AV.int IntKind.i64 (0 : Int), AV.int IntKind.i64 (0 : Int)] ++ AV.cells (AV.int IntKind.i64 (80 : Int)) ++ [])), ((1 : Nat), AV.agg ([AV.int IntKind.i64 (65536 : Int), AV.int IntKind.i64 (0 : Int)] ++ AV.cells (AV.int IntKind.i64 (80 : Int)) ++ []))] (Int.toNat (0 : Int))) == (0 : Int) else false then lf (pget [((0 : Nat), AV.agg [AV.int IntKind.i64 (0 : Int), AV.int IntKind.i64 (0 : Int), AV.int IntKind.i64 (100 : Int), AV.int IntKind.i64 (2 : Int)])]) (1 : Nat) (pget [((0 : Nat), AV.agg ([AV.int IntKind.i64 (0 : Int), AV.int IntKind.i64 (0 : Int)] ++ AV.cells (AV.int IntKind.i64 (80 : Int)) ++ [])), ((1 : Nat), AV.agg ([AV.int IntKind.i64 (65536 : Int), AV.int IntKind.i64 (0 : Int)] ++ AV.cells (AV.int IntKind.i64 (80 : Int)) ++ []))] (Int.toNat (1 : Int))) == (5 : Int) else false then (↑(1 : Nat) : Int) == (1 : Int) else false] id = true → (0 : Int) ≤ (0 : Int), List.all [bif bif bif bif bif bif hurtsF (0 : Int) (0 : Int) (100 : Int) (2 : Int) (0 : Int) (0 : Int) == (100 : Int) then hurtsF (0 : Int) (0 : Int) (100 : Int) (2 : Int) (65536 : Int) (0 : Int) == (75 : Int) else false then hurtsF (0 : Int) (0 : Int) (100 : Int) (2 : Int) (131072 : Int) (0 : Int) == (0 : Int) else false then (↑(2 : Nat) : Int) == (2 : Int) else false then lf (pget [((0 : Nat), AV.agg [AV.int IntKind.i64 (0 : Int), AV.int IntKind.i64 (0 : Int), AV.int IntKind.i64 (100 : Int), AV.int IntKind.i64 (2 : Int)])]) (1 : Nat) (pget [((0 : Nat), AV.agg ([AV.int IntKind.i64 (0 : Int), AV.int IntKind.i64 (0 : Int)] ++ AV.cells (AV.int IntKind.i64 (80 : Int)) ++ [])), ((1 : Nat), AV.agg ([AV.int IntKind.i64 (65536 : Int), AV.int IntKind.i64 (0 : Int)] ++ AV.cells (AV.int IntKind.i64 (80 : Int)) ++ []))] (Int.toNat (0 : Int))) == (0 : Int) else false then lf (pget [((0 : Nat), AV.agg [AV.int IntKind.i64 (0 : Int), AV.int IntKind.i64 (0 : Int), AV.int IntKind.i64 (100 : Int), AV.int IntKind.i64 (2 : Int)])]) (1 : Nat) (pget [((0 : Nat), AV.agg ([AV.int IntKind.i64 (0 : Int), AV.int IntKind.i64 (0 : Int)] ++ AV.cells (AV.int IntKind.i64 (80 : Int)) ++ [])), ((1 : Nat), AV.agg ([AV.int IntKind.i64 (65536 : Int), AV.int IntKind.i64 (0 : Int)] ++ AV.cells (AV.int IntKind.i64 (80 : Int)) ++ []))] (Int.toNat (1 : Int))) == (5 : Int) else false then (↑(1 : Nat) : Int) == (1 : Int) else false] id = true → (0 : Int) < (↑(1 : Nat) : Int), List.all [bif bif bif bif bif bif hurtsF (0 : Int) (0 : Int) (100 : Int) (2 : Int) (0 : Int) (0 : Int) == (100 : Int) then hurtsF (0 : Int) (0 : Int) (100 : Int) (2 : Int) (65536 : Int) (0 : Int) == (75 : Int) else false then hurtsF (0 : Int) (0 : Int) (100 : Int) (2 : Int) (131072 : Int) (0 : Int) == (0 : Int) else false then (↑(2 : Nat) : Int) == (2 : Int) else false then lf (pget [((0 : Nat), AV.agg [AV.int IntKind.i64 (0 : Int), AV.int IntKind.i64 (0 : Int), AV.int IntKind.i64 (100 : Int), AV.int IntKind.i64 (2 : Int)])]) (1 : Nat) (pget [((0 : Nat), AV.agg ([AV.int IntKind.i64 (0 : Int), AV.int IntKind.i64 (0 : Int)] ++ AV.cells (AV.int IntKind.i64 (80 : Int)) ++ [])), ((1 : Nat), AV.agg ([AV.int IntKind.i64 (65536 : Int), AV.int IntKind.i64 (0 : Int)] ++ AV.cells (AV.int IntKind.i64 (80 : Int)) ++ []))] (Int.toNat (0 : Int))) == (0 : Int) else false then lf (pget [((0 : Nat), AV.agg [AV.int IntKind.i64 (0 : Int), AV.int IntKind.i64 (0 : Int), AV.int IntKind.i64 (100 : Int), AV.int IntKind.i64 (2 : Int)])]) (1 : Nat) (pget [((0 : Nat), AV.agg ([AV.int IntKind.i64 (0 : Int), AV.int IntKind.i64 (0 : Int)] ++ AV.cells (AV.int IntKind.i64 (80 : Int)) ++ [])), ((1 : Nat), AV.agg ([AV.int IntKind.i64 (65536 : Int), AV.int IntKind.i64 (0 : Int)] ++ AV.cells (AV.int IntKind.i64 (80 : Int)) ++ []))] (Int.toNat (1 : Int))) == (5 : Int) else false then (↑(1 : Nat) : Int) == (1 : Int) else false] id = true → (1 : Nat) = (1 : Nat), List.all [bif bif bif bif bif bif hurtsF (0 : Int) (0 : Int) (100 : Int) (2 : Int) (0 : Int) (0 : Int) == (100 : Int) then hurtsF (0 : Int) (0 : Int) (100 : Int) (2 : Int) (65536 : Int) (0 : Int) == (75 : Int) else false then hurtsF (0 : Int) (0 : Int) (100 : Int) (2 : Int) (131072 : Int) (0 : Int) == (0 : Int) else false then (↑(2 : Nat) : Int) == (2 : Int) else false then lf (pget [((0 : Nat), AV.agg [AV.int IntKind.i64 (0 : Int), AV.int IntKind.i64 (0 : Int), AV.int IntKind.i64 (100 : Int), AV.int IntKind.i64 (2 : Int)])]) (1 : Nat) (pget [((0 : Nat), AV.agg ([AV.int IntKind.i64 (0 : Int), AV.int IntKind.i64 (0 : Int)] ++ AV.cells (AV.int IntKind.i64 (80 : Int)) ++ [])), ((1 : Nat), AV.agg ([AV.int IntKind.i64 (65536 : Int), AV.int IntKind.i64 (0 : Int)] ++ AV.cells (AV.int IntKind.i64 (80 : Int)) ++ []))] (Int.toNat (0 : Int))) == (0 : Int) else false then lf (pget [((0 : Nat), AV.agg [AV.int IntKind.i64 (0 : Int), AV.int IntKind.i64 (0 : Int), AV.int IntKind.i64 (100 : Int), AV.int IntKind.i64 (2 : Int)])]) (1 : Nat) (pget [((0 : Nat), AV.agg ([AV.int IntKind.i64 (0 : Int), AV.int IntKind.i64 (0 : Int)] ++ AV.cells (AV.int IntKind.i64 (80 : Int)) ++ [])), ((1 : Nat), AV.agg ([AV.int IntKind.i64 (65536 : Int), AV.int IntKind.i64 (0 : Int)] ++ AV.cells (AV.int IntKind.i64 (80 : Int)) ++ []))] (Int.toNat (1 : Int))) == (5 : Int) else false then (↑(1 : Nat) : Int) == (1 : Int) else false] id = true → (0 : Int) ≤ (0 : Int), List.all [bif bif bif bif bif bif hurtsF (0 : Int) (0 : Int) (100 : Int) (2 : Int) (0 : Int) (0 : Int) == (100 : Int) then hurtsF (0 : Int) (0 : Int) (100 : Int) (2 : Int) (65536 : Int) (0 : Int) == (75 : Int) else false then hurtsF (0 : Int) (0 : Int) (100 : Int) (2 : Int) (131072 : Int) (0 : Int) == (0 : Int) else false then (↑(2 : Nat) : Int) == (2 : Int) else false then lf (pget [((0 : Nat), AV.agg [AV.int IntKind.i64 (0 : Int), AV.int IntKind.i64 (0 : Int), AV.int IntKind.i64 (100 : Int), AV.int IntKind.i64 (2 : Int)])]) (1 : Nat) (pget [((0 : Nat), AV.agg ([AV.int IntKind.i64 (0 : Int), AV.int IntKind.i64 (0 : Int)] ++ AV.cells (AV.int IntKind.i64 (80 : Int)) ++ [])), ((1 : Nat), AV.agg ([AV.int IntKind.i64 (65536 : Int), AV.int IntKind.i64 (0 : Int)] ++ AV.cells (AV.int IntKind.i64 (80 : Int)) ++ []))] (Int.toNat (0 : Int))) == (0 : Int) else false then lf (pget [((0 : Nat), AV.agg [AV.int IntKind.i64 (0 : Int), AV.int IntKind.i64 (0 : Int), AV.int IntKind.i64 (100 : Int), AV.int IntKind.i64 (2 : Int)])]) (1 : Nat) (pget [((0 : Nat), AV.agg ([AV.int IntKind.i64 (0 : Int), AV.int IntKind.i64 (0 : Int)] ++ AV.cells (AV.int IntKind.i64 (80 : Int)) ++ [])), ((1 : Nat), AV.agg ([AV.int IntKind.i64 (65536 : Int), AV.int IntKind.i64 (0 : Int)] ++ AV.cells (AV.int IntKind.i64 (80 : Int)) ++ []))] (Int.toNat (1 : Int))) == (5 : Int) else false then (↑(1 : Nat) : Int) == (1 : Int) else false] id = true → (0 : Int) < (↑(1 : Nat) : Int), List.all [bif bif bif bif bif bif hurtsF (0 : Int) (0 : Int) (100 : Int) (2 : Int) (0 : Int) (0 : Int) == (100 : Int) then hurtsF (0 : Int) (0 : Int) (100 : Int) (2 : Int) (65536 : Int) (0 : Int) == (75 : Int) else false then hurtsF (0 : Int) (0 : Int) (100 : Int) (2 : Int) (131072 : Int) (0 : Int) == (0 : Int) else false then (↑(2 : Nat) : Int) == (2 : Int) else false then lf (pget [((0 : Nat), AV.agg [AV.int IntKind.i64 (0 : Int), AV.int IntKind.i64 (0 : Int), AV.int IntKind.i64 (100 : Int), AV.int IntKind.i64 (2 : Int)])]) (1 : Nat) (pget [((0 : Nat), AV.agg ([AV.int IntKind.i64 (0 : Int), AV.int IntKind.i64 (0 : Int)] ++ AV.cells (AV.int IntKind.i64 (80 : Int)) ++ [])), ((1 : Nat), AV.agg ([AV.int IntKind.i64 (65536 : Int), AV.int IntKind.i64 (0 : Int)] ++ AV.cells (AV.int IntKind.i64 (80 : Int)) ++ []))] (Int.toNat (0 : Int))) == (0 : Int) else false then lf (pget [((0 : Nat), AV.agg [AV.int IntKind.i64 (0 : Int), AV.int IntKind.i64 (0 : Int), AV.int IntKind.i64 (100 : Int), AV.int IntKind.i64 (2 : Int)])]) (1 : Nat) (pget [((0 : Nat), AV.agg ([AV.int IntKind.i64 (0 : Int), AV.int IntKind.i64 (0 : Int)] ++ AV.cells (AV.int IntKind.i64 (80 : Int)) ++ [])), ((1 : Nat), AV.agg ([AV.int IntKind.i64 (65536 : Int), AV.int IntKind.i64 (0 : Int)] ++ AV.cells (AV.int IntKind.i64 (80 : Int)) ++ []))] (Int.toNat (1 : Int))) == (5 : Int) else false then (↑(1 : Nat) : Int) == (1 : Int) else false] id = true → (1 : Nat) = (1 : Nat)]) (s' := ⟨[(0, 0, Cont.cell (AV.bool true))], 521, 63⟩) (by kernel_rfl) (by kernel_rfl) ?_ ?_
    · simp only [All]
      repeat' apply And.intro
      all_goals (intro h; clear h hs; first | trivial | omega | decide)
    refine evC_ret ?_
    refine post_ret ?_
    refine ends_flat (vs := [AV.bool true]) (Nat.zero_lt_succ _) (by kernel_rfl) (flat_of _ (by kernel_rfl)) rfl ?_
    exact congrArg AV.bool (by kernel_rfl)
  · cases e

def sBlastHurts : Spec := fun args _ _ => match args with
  | [.agg [.int .i64 bx, .int .i64 b_y, .int .i64 d, .int .i64 s], .int .i64 x, .int .i64 y] => some ⟨[], .bool true, [], []⟩
  | _ => none
theorem blastHurts_ok : SpecOK Try.prog 3 sBlastHurts := by
  refine spec_own (by kernel_rfl) T_ok (sget_cons hurts_ok (sget_cons refHurts_ok (sget_cons awake_ok sget_nil))) Try.func3 rfl rfl fun args hr nb out e => ?_
  unfold sBlastHurts at e
  split at e
  · rename_i bx b_y d s x y
    injection e with e; subst e
    refine ⟨(fun _ h => nomatch h), true, [.agg [.int .i64 bx, .int .i64 b_y, .int .i64 d, .int .i64 s], .int .i64 x, .int .i64 y], rfl, fun _ => ⟨.cons _ _ _ _ (.same _ _ (flat_of _ rfl).has) (.cons _ _ _ _ (.same _ _ (flat_of _ rfl).has) (.cons _ _ _ _ (.same _ _ (flat_of _ rfl).has) .nil)), ?_⟩⟩
    refine evC_go0 (dec := []) (ks := [(0, 1), (0, 2), (0, 3), (0, 6), (1, 0), (1, 1), (1, 2), (1, 3), (1, 4)]) (s' := ⟨[(0, 1, Cont.cell (AV.int IntKind.i64 x)), (0, 2, Cont.cell (AV.int IntKind.i64 y)), (0, 3, Cont.cell (AV.ptr 1 0)), (0, 6, Cont.cell (AV.bool false)), (1, 0, Cont.cell (AV.int IntKind.i64 bx)), (1, 1, Cont.cell (AV.int IntKind.i64 b_y)), (1, 2, Cont.cell (AV.int IntKind.i64 d)), (1, 3, Cont.cell (AV.int IntKind.i64 s)), (1, 4, Cont.top)], 17, 19⟩) (by kernel_rfl) (by kernel_rfl) ?_
    refine evC_go0 (dec := []) (ks := [(0, 6)]) (s' := ⟨[(0, 6, Cont.cell (AV.bool (bif hurtsF bx b_y d s x y == hurtsF bx b_y d s x y then true else false)))], 121, 19⟩) (by kernel_rfl) (by kernel_rfl) ?_
    refine evC_ret ?_
    refine post_ret ?_
    refine ends_flat (vs := [AV.bool (bif hurtsF bx b_y d s x y == hurtsF bx b_y d s x y then true else false)]) (Nat.zero_lt_succ _) (by kernel_rfl) (flat_of _ (by kernel_rfl)) rfl ?_
    simp [oneAV]
  · cases e

theorem hurts_own (bx b_y d s : Int) : hurtsF bx b_y d s bx b_y = d ∨ hurtsF bx b_y d s bx b_y = 0 := by
  unfold hurtsF
  cases h : mayB bx b_y d s && span bx b_y with
  | false => simp
  | true =>
    simp only [Bool.and_eq_true, may_iff] at h
    have hr := rad_bound h.1.2.2.2
    have e : distF bx b_y bx b_y = 0 := by simp [distF]
    left
    rw [cond_true, e, if_neg (by omega), Int.sub_zero, Int.mul_ediv_cancel _ (by omega)]
theorem hurts_le (bx b_y d s x y : Int) : 0 ≤ hurtsF bx b_y d s x y ∧ (0 < hurtsF bx b_y d s x y → hurtsF bx b_y d s x y ≤ d) := by
  refine ⟨(hurts_bound bx b_y d s x y).1, ?_⟩
  unfold hurtsF
  cases h : mayB bx b_y d s && span x y with
  | false => simp
  | true =>
    simp only [Bool.and_eq_true, may_iff, span_iff] at h
    have hr := rad_bound h.1.2.2.2
    have h1 := sq_bound (a := x - bx) (by omega)
    have h2 := sq_bound (a := y - b_y) (by omega)
    rw [cond_true]
    by_cases c : rad s * rad s ≤ distF bx b_y x y
    · rw [if_pos c]; omega
    · rw [if_neg c]
      intro _
      have hd : 0 ≤ distF bx b_y x y := by unfold distF; omega
      refine Int.le_trans (Int.ediv_le_ediv (by omega) (b := d * (rad s * rad s)) (Int.mul_le_mul_of_nonneg_left (by omega) (by omega))) ?_
      rw [Int.mul_ediv_cancel _ (by omega)]; omega
/-- Farther off along a side it hurts no more. -/
theorem hurts_far {bx b_y d s x m : Int} (hx : bx ≤ x) (hm : 0 ≤ m) (hs : x + m ≤ 67108864) (hb : 0 ≤ bx) : hurtsF bx b_y d s (x + m) b_y ≤ hurtsF bx b_y d s x b_y := by
  have e1 : inR 0 67108864 (x + m) = true := by rw [inR_iff]; omega
  have e2 : inR 0 67108864 x = true := by rw [inR_iff]; omega
  unfold hurtsF span
  rw [e1, e2]
  cases h : mayB bx b_y d s && (true && inR 0 67108864 b_y) with
  | false => simp
  | true =>
    simp only [Bool.and_eq_true, may_iff] at h
    have hr := rad_bound h.1.2.2.2
    have k1 : (x - bx) * (x - bx) ≤ (x + m - bx) * (x + m - bx) := Int.mul_le_mul (by omega) (by omega) (by omega) (by omega)
    have hd : distF bx b_y x b_y ≤ distF bx b_y (x + m) b_y := by unfold distF; omega
    have hp : 0 ≤ (x - bx) * (x - bx) := Int.mul_nonneg (by omega) (by omega)
    have hq : 0 ≤ distF bx b_y x b_y := by unfold distF; simp; omega
    simp only [cond_true]
    by_cases c : rad s * rad s ≤ distF bx b_y (x + m) b_y
    · rw [if_pos c]
      by_cases c2 : rad s * rad s ≤ distF bx b_y x b_y
      · rw [if_pos c2]; omega
      · rw [if_neg c2]; exact Int.ediv_nonneg (Int.mul_nonneg (by omega) (by omega)) (by omega)
    · rw [if_neg c, if_neg (by omega)]
      exact Int.ediv_le_ediv (by omega) (Int.mul_le_mul_of_nonneg_left (by omega) (by omega))

def sBlastFarther : Spec := fun args _ _ => match args with
  | [.agg [.int .i64 bx, .int .i64 b_y, .int .i64 d, .int .i64 s], .int .i64 x, .int .i64 m] => some ⟨[i64R bx, i64R b_y, i64R d, i64R s, i64R x, i64R m], .bool true, [], []⟩
  | _ => none
theorem blastFarther_ok : SpecOK Try.prog 6 sBlastFarther := by
  refine spec_own (by kernel_rfl) T_ok (sget_cons hurts_ok (sget_cons awake_ok sget_nil)) Try.func6 rfl rfl fun args hr nb out e => ?_
  unfold sBlastFarther at e
  split at e
  · rename_i bx b_y d s x m
    injection e with e; subst e
    refine ⟨(fun _ h => nomatch h), true, [.agg [.int .i64 bx, .int .i64 b_y, .int .i64 d, .int .i64 s], .int .i64 x, .int .i64 m], rfl, fun hs => ⟨.cons _ _ _ _ (.same _ _ (flat_of _ rfl).has) (.cons _ _ _ _ (.same _ _ (flat_of _ rfl).has) (.cons _ _ _ _ (.same _ _ (flat_of _ rfl).has) .nil)), ?_⟩⟩
    have hbx : i64R bx := hs _ (by simp)
    have hxx : i64R x := hs _ (by simp)
    have hmm : i64R m := hs _ (by simp)
    clear hs
    unfold i64R at hbx hxx hmm
    refine evC_go0 (dec := []) (ks := [(0, 1), (0, 2), (0, 3), (0, 6), (1, 0), (1, 1), (1, 2), (1, 3), (1, 4)]) (s' := ⟨[(0, 1, Cont.cell (AV.int IntKind.i64 x)), (0, 2, Cont.cell (AV.int IntKind.i64 m)), (0, 3, Cont.cell (AV.ptr 1 0)), (0, 6, Cont.cell (AV.bool false)), (1, 0, Cont.cell (AV.int IntKind.i64 bx)), (1, 1, Cont.cell (AV.int IntKind.i64 b_y)), (1, 2, Cont.cell (AV.int IntKind.i64 d)), (1, 3, Cont.cell (AV.int IntKind.i64 s)), (1, 4, Cont.top)], 17, 94⟩) (by kernel_rfl) (by kernel_rfl) ?_
    refine evC_go0 (dec := []) (ks := [(0, 1), (0, 2), (0, 3), (0, 6), (0, 7), (1, 0), (1, 1), (1, 2), (1, 3), (1, 4)]) (s' := ⟨[(0, 1, Cont.cell (AV.int IntKind.i64 x)), (0, 2, Cont.cell (AV.int IntKind.i64 m)), (0, 3, Cont.cell (AV.ptr 1 0)), (0, 6, Cont.cell (AV.bool false)), (0, 7, Cont.cell (AV.int IntKind.i64 (hurtsF bx b_y d s x b_y))), (1, 0, Cont.cell (AV.int IntKind.i64 bx)), (1, 1, Cont.cell (AV.int IntKind.i64 b_y)), (1, 2, Cont.cell (AV.int IntKind.i64 d)), (1, 3, Cont.cell (AV.int IntKind.i64 s)), (1, 4, Cont.top)], 65, 94⟩) (by kernel_rfl) (by kernel_rfl) ?_
    refine evC_seq ?_
    refine evC_go0 (dec := []) (ks := [(0, 1), (0, 2), (0, 3), (0, 6), (0, 7), (0, 41), (1, 0), (1, 1), (1, 2), (1, 3), (1, 4)]) (s' := ⟨[(0, 1, Cont.cell (AV.int IntKind.i64 x)), (0, 2, Cont.cell (AV.int IntKind.i64 m)), (0, 3, Cont.cell (AV.ptr 1 0)), (0, 6, Cont.cell (AV.bool false)), (0, 7, Cont.cell (AV.int IntKind.i64 (hurtsF bx b_y d s x b_y))), (0, 41, Cont.cell (AV.bool (bif bif bif bif bif decide (bx < 0) then true else decide (bx > 67108864) then true else decide (x < bx) then true else decide (x > 67108864) then true else decide (m < 0) then true else decide (m > IntKind.i64.wrap (67108864 - x))))), (1, 0, Cont.cell (AV.int IntKind.i64 bx)), (1, 1, Cont.cell (AV.int IntKind.i64 b_y)), (1, 2, Cont.cell (AV.int IntKind.i64 d)), (1, 3, Cont.cell (AV.int IntKind.i64 s)), (1, 4, Cont.top)], 289, 94⟩) (by kernel_rfl) (by kernel_rfl) ?_
    refine evC_if (q := bif bif bif bif bif decide (bx < 0) then true else decide (bx > 67108864) then true else decide (x < bx) then true else decide (x > 67108864) then true else decide (m < 0) then true else decide (m > IntKind.i64.wrap (67108864 - x))) (by kernel_rfl) (fun hc => ?_) (fun hc => ?_)
    · clear hc
      refine evC_go0 (dec := []) (ks := [(0, 1), (0, 2), (0, 3), (0, 6), (0, 7), (1, 0), (1, 1), (1, 2), (1, 3), (1, 4)]) (s' := ⟨[(0, 1, Cont.cell (AV.int IntKind.i64 x)), (0, 2, Cont.cell (AV.int IntKind.i64 m)), (0, 3, Cont.cell (AV.ptr 1 0)), (0, 6, Cont.cell (AV.bool (bif bif hurtsF bx b_y d s x b_y == 0 then true else bif decide (hurtsF bx b_y d s x b_y > 0) then decide (hurtsF bx b_y d s x b_y ≤ d) else false then true else false))), (0, 7, Cont.cell (AV.int IntKind.i64 (hurtsF bx b_y d s x b_y))), (1, 0, Cont.cell (AV.int IntKind.i64 bx)), (1, 1, Cont.cell (AV.int IntKind.i64 b_y)), (1, 2, Cont.cell (AV.int IntKind.i64 d)), (1, 3, Cont.cell (AV.int IntKind.i64 s)), (1, 4, Cont.top)], 417, 94⟩) (by kernel_rfl) (by kernel_rfl) ?_
      refine evC_ret ?_
      refine then_ret ?_
      refine post_ret ?_
      refine ends_flat (vs := [AV.bool (bif bif hurtsF bx b_y d s x b_y == 0 then true else bif decide (hurtsF bx b_y d s x b_y > 0) then decide (hurtsF bx b_y d s x b_y ≤ d) else false then true else false)]) (Nat.zero_lt_succ _) (by kernel_rfl) (flat_of _ (by kernel_rfl)) rfl ?_
      have h := hurts_le bx b_y d s x b_y
      have hb := hurts_bound bx b_y d s x b_y
      refine congrArg AV.bool ?_
      symm
      generalize hurtsF bx b_y d s x b_y = q at *
      by_cases h0 : q = 0
      · simp [h0]
      · have h1 : q > 0 := by omega
        have h2 : q ≤ d := h.2 h1
        simp [h0, h1, h2]
    · simp only [cond_or, Bool.or_eq_false_iff, decide_eq_false_iff_not] at hc
      have hx : 0 ≤ bx ∧ bx ≤ x ∧ x ≤ 67108864 ∧ 0 ≤ m := by omega
      have hm : x + m ≤ 67108864 := by
        have := hc.2
        rw [i64_in _ (by omega)] at this
        omega
      clear hc
      refine evC_skip ?_
      refine then_normal ?_
      refine evC_go0 (dec := []) (ks := [(0, 1), (0, 2), (0, 3), (0, 6), (0, 7), (0, 8), (1, 0), (1, 1), (1, 2), (1, 3), (1, 4)]) (s' := ⟨[(0, 1, Cont.cell (AV.int IntKind.i64 x)), (0, 2, Cont.cell (AV.int IntKind.i64 m)), (0, 3, Cont.cell (AV.ptr 1 0)), (0, 6, Cont.cell (AV.bool false)), (0, 7, Cont.cell (AV.int IntKind.i64 (hurtsF bx b_y d s x b_y))), (0, 8, Cont.cell (AV.int IntKind.i64 (hurtsF bx b_y d s bx b_y))), (1, 0, Cont.cell (AV.int IntKind.i64 bx)), (1, 1, Cont.cell (AV.int IntKind.i64 b_y)), (1, 2, Cont.cell (AV.int IntKind.i64 d)), (1, 3, Cont.cell (AV.int IntKind.i64 s)), (1, 4, Cont.top)], 345, 94⟩) (by kernel_rfl) (by kernel_rfl) ?_
      refine evC_go0 (dec := []) (ks := [(0, 6)]) (s' := ⟨[(0, 6, Cont.cell (AV.bool (bif bif bif bif bif hurtsF bx b_y d s bx b_y == d then true else hurtsF bx b_y d s bx b_y == 0 then decide (hurtsF bx b_y d s x b_y ≤ hurtsF bx b_y d s bx b_y) else false then decide (hurtsF bx b_y d s x b_y ≥ 0) else false then decide (hurtsF bx b_y d s (IntKind.i64.wrap (x + m)) b_y ≤ hurtsF bx b_y d s x b_y) else false then true else false)))], 601, 94⟩) (by kernel_rfl) (by kernel_rfl) ?_
      refine evC_ret ?_
      refine post_ret ?_
      refine ends_flat (vs := [AV.bool (bif bif bif bif bif hurtsF bx b_y d s bx b_y == d then true else hurtsF bx b_y d s bx b_y == 0 then decide (hurtsF bx b_y d s x b_y ≤ hurtsF bx b_y d s bx b_y) else false then decide (hurtsF bx b_y d s x b_y ≥ 0) else false then decide (hurtsF bx b_y d s (IntKind.i64.wrap (x + m)) b_y ≤ hurtsF bx b_y d s x b_y) else false then true else false)]) (Nat.zero_lt_succ _) (by kernel_rfl) (flat_of _ (by kernel_rfl)) rfl ?_
      refine congrArg AV.bool ?_
      symm
      rw [i64_in (x + m) (by omega)]
      have h1 := hurts_own bx b_y d s
      have h2 := hurts_far (b_y := b_y) (d := d) (s := s) (x := bx) (m := x - bx) (Int.le_refl _) (by omega) (by omega) hx.1
      rw [show bx + (x - bx) = x by omega] at h2
      have h3 := hurts_far (b_y := b_y) (d := d) (s := s) hx.2.1 hx.2.2.2 hm hx.1
      have h4 := (hurts_bound bx b_y d s x b_y).1
      generalize hurtsF bx b_y d s x b_y = p at *
      generalize hurtsF bx b_y d s bx b_y = q at *
      generalize hurtsF bx b_y d s (x + m) b_y = r at *
      have e1 : (bif q == d then true else q == 0) = true := by rcases h1 with h | h <;> simp [h]
      rw [e1]
      simp [h2, h3, h4]
  · cases e
end Go.Eng.S18
