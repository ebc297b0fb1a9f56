/- Seat 13: the examples' land, walked. -/
import Derived.Test.YtmlpggggahpoaaaEngX
import Derived.Test.YtmlpggggahpoaaaS13H
set_option linter.unusedSimpArgs false
set_option linter.unusedVariables false
namespace Go.Eng.S13
open Go.Proofs Go.IntWalk
set_option maxRecDepth 10000

def sThree : Spec := fun args _ nb => match args with
  | [] => some ⟨[], .agg [.int .i64 3, .int .i64 2, .vs nb], [], [(nb, 0, .vec 1 4 6 (nB fun _ => true))]⟩
  | _ => none
theorem three_ok : SpecOK Try.prog 26 sThree := by
  refine spec_own (by kernel_rfl) T_ok sget_nil Try.func26 rfl rfl fun args hr nb out e => ?_
  unfold sThree at e
  split at e
  · injection e with e; subst e
    refine ⟨(fun _ h => nomatch h), true, [], rfl, fun hs => ⟨.nil, ?_⟩⟩
    refine evC_go0 (dec := []) (ks := [(0, 0), (1, 0), (1, 1), (1, 2), (1, 3)]) (s' := ⟨[(0, 0, Cont.cell (AV.ptr 1 0)), (1, 0, Cont.cell (AV.int IntKind.i64 0)), (1, 1, Cont.cell (AV.int IntKind.i64 0)), (1, 2, Cont.cell AV.nils), (1, 3, Cont.top)], 9, 3⟩) (by kernel_rfl) (by kernel_rfl) ?_
    refine evC_go0 (dec := []) (ks := [(0, 0), (1, 0), (1, 1), (1, 2), (1, 3), (9, 0)]) (s' := ⟨[(0, 0, Cont.cell (AV.ptr 1 0)), (1, 0, Cont.cell (AV.int IntKind.i64 3)), (1, 1, Cont.cell (AV.int IntKind.i64 2)), (1, 2, Cont.cell (AV.vs 9)), (1, 3, Cont.top), (9, 0, Cont.vec 1 4 6 (pget [(0, AV.bool true), (1, AV.bool true), (2, AV.bool true), (3, AV.bool true), (4, AV.bool true), (5, AV.bool true)]))], 33, 3⟩) (by kernel_rfl) (by kernel_rfl) ?_
    refine evC_wk (s' := ⟨[(0, 0, Cont.cell (AV.ptr 1 0)), (1, 0, Cont.cell (AV.int IntKind.i64 3)), (1, 1, Cont.cell (AV.int IntKind.i64 2)), (1, 2, Cont.cell (AV.vs 2)), (1, 3, Cont.top), (2, 0, .vec 1 4 6 (nB fun _ => true))], 3, 3⟩) _ (wk_go [1, 9] rfl (by decide) rfl rfl ⟨⟨_, rfl, rfl⟩, ⟨_, rfl, rfl⟩, ⟨_, rfl, rfl⟩, ⟨_, rfl, rfl⟩, ⟨_, rfl, trivial⟩, ⟨_, rfl, ?_⟩, trivial⟩) ?_
    · refine ⟨rfl, rfl, rfl, fun j hj => ?_⟩
      have hj' : j < 6 := hj
      rcases (by omega : j = 0 ∨ j = 1 ∨ j = 2 ∨ j = 3 ∨ j = 4 ∨ j = 5) with rfl | rfl | rfl | rfl | rfl | rfl <;> rfl
    refine evC_ret ?_
    refine post_ret ?_
    refine ends_go [2] (AV.agg [AV.int IntKind.i64 3, AV.int IntKind.i64 2, AV.vs 1]) [(1, 0, Cont.vec 1 4 6 (nB fun x => true))] rfl (by decide) rfl rfl (has_of _ rfl) rfl ⟨⟨_, rfl, ⟨rfl, rfl, rfl, fun _ _ => rfl⟩⟩, trivial⟩ ⟨fun _ => ⟨1, _, rfl, rfl, rfl, ⟨rfl, rfl, rfl, fun _ _ => ⟨has_of _ rfl, rfl⟩⟩⟩, trivial⟩ (kept_nil _)
  · cases e
theorem ex_cost : costs 3 2 (fun _ => true) 6 5 0 = 5 := by decide +kernel
end Go.Eng.S13
