/- Seat 13: things that wait, the least one first, walked. -/
import Derived.Test.YtmlpggggahpoaaaEngX
import Derived.Test.YtmlpggggahpoaaaEngX
import Derived.Test.YtmlpggggahpoaaaProg
set_option linter.unusedSimpArgs false
set_option linter.unusedVariables false
namespace Go.Eng.S13
open Go.Proofs Go.IntWalk
def T : Tab := [(1, ⟨1, 8, .other, [.nilf]⟩),
  (2, ⟨1, 8, .int .i64, [.int .i64 0]⟩),
  (3, ⟨1, 8, .int .i64, [.int .i64 0]⟩),
  (4, ⟨1, 1, .bool, [.bool false]⟩),
  (6, ⟨1, 1, .int .u8, [.int .u8 0]⟩),
  (8, ⟨4, 24, .struct [(0, 2, 1), (1, 3, 1), (2, 4, 1), (3, 6, 1)], [.int .i64 0, .int .i64 0, .bool false, .int .u8 0]⟩),
  (9, ⟨1, 16, .str, [.str ⟨⟨[]⟩⟩]⟩),
  (10, ⟨1, 16, .str, [.str ⟨⟨[]⟩⟩]⟩),
  (11, ⟨1, 16, .str, [.str ⟨⟨[]⟩⟩]⟩),
  (15, ⟨1, 8, .ptr 65, [.nilp]⟩),
  (16, ⟨1, 8, .ptr 68, [.nilp]⟩),
  (17, ⟨1, 8, .ptr 78, [.nilp]⟩),
  (22, ⟨1, 24, .slice 4, [.nils]⟩),
  (24, ⟨3, 40, .struct [(0, 3, 1), (1, 3, 1), (2, 22, 1)], [.int .i64 0, .int .i64 0, .nils]⟩),
  (26, ⟨1, 24, .slice 3, [.nils]⟩),
  (27, ⟨1, 8, .int .i64, [.int .i64 0]⟩),
  (29, ⟨1, 8, .other, [.nilf]⟩),
  (35, ⟨7, 72, .struct [(0, 24, 3), (3, 3, 1), (4, 3, 1), (5, 3, 1), (6, 3, 1)], [.int .i64 0, .int .i64 0, .nils, .int .i64 0, .int .i64 0, .int .i64 0, .int .i64 0]⟩),
  (43, ⟨1, 8, .ptr 52, [.nilp]⟩),
  (46, ⟨2, 16, .struct [(0, 3, 1), (1, 3, 1)], [.int .i64 0, .int .i64 0]⟩),
  (47, ⟨1, 8, .other, [.nilf]⟩),
  (49, ⟨1, 24, .slice 46, [.nils]⟩),
  (50, ⟨1, 8, .other, [.nilf]⟩),
  (52, ⟨2, 32, .struct [(0, 49, 1), (1, 50, 1)], [.nils, .nilf]⟩),
  (55, ⟨3, 24, .struct [(0, 3, 1), (1, 3, 1), (2, 3, 1)], [.int .i64 0, .int .i64 0, .int .i64 0]⟩),
  (56, ⟨24, 192, .array 8 55, [.int .i64 0, .int .i64 0, .int .i64 0, .int .i64 0, .int .i64 0, .int .i64 0, .int .i64 0, .int .i64 0, .int .i64 0, .int .i64 0, .int .i64 0, .int .i64 0, .int .i64 0, .int .i64 0, .int .i64 0, .int .i64 0, .int .i64 0, .int .i64 0, .int .i64 0, .int .i64 0, .int .i64 0, .int .i64 0, .int .i64 0, .int .i64 0]⟩),
  (72, ⟨1, 1, .int .u8, [.int .u8 0]⟩)]
theorem T_ok : TabOK Try.prog T := by
  have e : tabOf Try.prog [1, 2, 3, 4, 6, 8, 9, 10, 11, 15, 16, 17, 22, 24, 26, 27, 29, 35, 43, 46, 47, 49, 50, 52, 55, 56, 72] = T := by kernel_rfl
  exact e ▸ tabOf_sound Try.prog [1, 2, 3, 4, 6, 8, 9, 10, 11, 15, 16, 17, 22, 24, 26, 27, 29, 35, 43, 46, 47, 49, 50, 52, 55, 56, 72]

set_option maxRecDepth 10000

/-- Things that wait: cell and cost. -/
abbrev Ws := Nat → Int × Int
def nW (w : Ws) : Nat → AV := fun i => .agg [.int .i64 (w i).1, .int .i64 (w i).2]
theorem nW_flat (w : Ws) (i : Nat) : Flat (nW w i) := flat_of _ rfl
def Wf (f : Nat → AV) : Ws := fun i => (cv 0 (f i), cv 1 (f i))
theorem Wf_nW (w : Ws) : Wf (nW w) = w := rfl
def sCost : Spec := fun args _ _ => match args with
  | [.agg [.int .i64 x, .int .i64 c]] => some ⟨[], .int .i64 c, [], []⟩
  | _ => none
theorem cost_ok : SpecOK Try.prog 21 sCost := by
  refine spec_own (by kernel_rfl) T_ok sget_nil Try.func21 rfl rfl fun args hr nb out e => ?_
  unfold sCost at e
  split at e
  · rename_i x c
    injection e with e; subst e
    refine ⟨(fun _ h => nomatch h), true, [.agg [.int .i64 x, .int .i64 c]], rfl, fun hs => ⟨.cons _ _ _ _ (.same _ _ (flat_of _ rfl).has) .nil, ?_⟩⟩
    refine evC_go0 (dec := []) (ks := [(0, 1), (0, 2), (1, 0), (1, 1), (1, 2)]) (s' := ⟨[(0, 1, Cont.cell (AV.ptr 1 0)), (0, 2, Cont.cell (AV.int IntKind.i64 0)), (1, 0, Cont.cell (AV.int IntKind.i64 x)), (1, 1, Cont.cell (AV.int IntKind.i64 c)), (1, 2, Cont.top)], 17, 5⟩) (by kernel_rfl) (by kernel_rfl) ?_
    refine evC_go0 (dec := []) (ks := [(0, 2)]) (s' := ⟨[(0, 2, Cont.cell (AV.int IntKind.i64 c))], 41, 5⟩) (by kernel_rfl) (by kernel_rfl) ?_
    refine evC_ret ?_
    refine post_ret ?_
    refine ends_flat (vs := [AV.int IntKind.i64 c]) (Nat.zero_lt_succ _) (by kernel_rfl) (flat_of _ (by kernel_rfl)) rfl ?_
    rfl
  · cases e
def sLess : Spec := fun args hr _ => match args with
  | [.agg [.int .i64 x, .int .i64 a], .agg [.int .i64 y, .int .i64 b], .ptr n 0] => match hr n 0, hr n 1 with
    | some (.cell (.fn 21 [])), some .top => some ⟨[0 < n], .bool (decide (a < b)), [(n, 0, .cell (.fn 21 [])), (n, 1, .top)], []⟩
    | _, _ => none
  | _ => none
theorem less_ok : SpecOK Try.prog 29 sLess := by
  refine spec_at (by kernel_rfl) T_ok (sget_cons cost_ok sget_nil) Try.func29 rfl rfl fun args hr nb out e => ?_
  unfold sLess at e
  split at e
  · rename_i x a y b n
    split at e
    · rename_i e1 e2
      injection e with e; subst e
      refine ⟨?_, true, [n], [.agg [.int .i64 x, .int .i64 a], .agg [.int .i64 y, .int .i64 b], .ptr 1 0], [(1, 0, .cell (.fn 21 [])), (1, 1, .top)], rfl, fun hs => ?_⟩
      · simp [e1, e2]
      have p1 := hs _ List.mem_cons_self
      refine ⟨by simp, ?_, .cons _ _ _ _ (.same _ _ (flat_of _ rfl).has) (.cons _ _ _ _ (.same _ _ (flat_of _ rfl).has) (.cons _ _ _ _ (.name _ _ _ rfl) .nil)), ?_, ?_⟩
      · intro z hz
        simp at hz
        subst hz
        exact ⟨p1, whole_laid [.cell (.fn 21 [])] rfl (by simp [laid, Cont.wd])⟩
      · exact InitH.get ⟨⟨0, 0, _, _, rfl, rfl, rfl, rfl⟩, ⟨0, 1, _, _, rfl, rfl, rfl, trivial⟩, trivial⟩
      clear hs
      refine evC_go0 (dec := []) (ks := [(0, 2), (0, 3), (0, 4), (0, 5), (1, 0), (1, 1), (2, 0), (2, 1), (2, 2), (10, 0), (10, 1), (10, 2)]) (s' := ⟨[(0, 2, Cont.cell (AV.ptr 1 0)), (0, 3, Cont.cell (AV.ptr 2 0)), (0, 4, Cont.cell (AV.ptr 10 0)), (0, 5, Cont.cell (AV.bool false)), (1, 0, Cont.cell (AV.fn 21 [])), (1, 1, Cont.top), (2, 0, Cont.cell (AV.int IntKind.i64 x)), (2, 1, Cont.cell (AV.int IntKind.i64 a)), (2, 2, Cont.top), (10, 0, Cont.cell (AV.int IntKind.i64 y)), (10, 1, Cont.cell (AV.int IntKind.i64 b)), (10, 2, Cont.top)], 26, 13⟩) (by kernel_rfl) (by kernel_rfl) ?_
      refine evC_go0 (dec := []) (ks := [(0, 5), (1, 0), (1, 1)]) (s' := ⟨[(0, 5, Cont.cell (AV.bool (decide (a < b)))), (1, 0, Cont.cell (AV.fn 21 [])), (1, 1, Cont.top)], 90, 13⟩) (by kernel_rfl) (by kernel_rfl) ?_
      refine evC_ret ?_
      refine post_ret ?_
      refine ends_go [] (AV.bool (decide (a < b))) [(1, 0, Cont.cell (AV.fn 21 [])), (1, 1, Cont.top)] rfl (by decide) rfl rfl (has_of _ rfl) rfl ⟨⟨_, rfl, rfl⟩, ⟨_, rfl, trivial⟩, trivial⟩ trivial ⟨fun _ => .inr ⟨0, _, rfl, rfl, ⟨has_of _ rfl, rfl⟩⟩, fun _ => .inr ⟨0, _, rfl, rfl, trivial⟩, trivial⟩
    · cases e
  · cases e
def sNew : Spec := fun args _ nb => match args with
  | [.fn 21 []] => some ⟨[], .ptr nb 0, [], [(nb, 0, .cell .nils), (nb, 1, .cell (.fn 29 [.ptr (nb + 1) 0])), (nb, 2, .top), (nb + 1, 0, .cell (.fn 21 [])), (nb + 1, 1, .top)]⟩
  | _ => none
theorem new_ok : SpecOK Try.prog 20 sNew := by
  refine spec_own (by kernel_rfl) T_ok sget_nil Try.func20 rfl rfl fun args hr nb out e => ?_
  unfold sNew at e
  split at e
  · injection e with e; subst e
    refine ⟨(fun _ h => nomatch h), true, [.fn 21 []], rfl, fun hs => ⟨.cons _ _ _ _ (.same _ _ (has_of (.fn 21 []) rfl)) .nil, ?_⟩⟩
    refine evC_go0 (dec := []) (ks := [(0, 1), (0, 2), (1, 0), (1, 1)]) (s' := ⟨[(0, 1, Cont.cell (AV.ptr 1 0)), (0, 2, Cont.cell AV.nilp), (1, 0, Cont.cell (AV.fn 21 [])), (1, 1, Cont.top)], 17, 6⟩) (by kernel_rfl) (by kernel_rfl) ?_
    refine evC_go0 (dec := []) (ks := [(0, 2), (1, 0), (1, 1), (33, 0), (33, 1), (33, 2)]) (s' := ⟨[(0, 2, Cont.cell (AV.ptr 33 0)), (1, 0, Cont.cell (AV.fn 21 [])), (1, 1, Cont.top), (33, 0, Cont.cell AV.nils), (33, 1, Cont.cell (AV.fn 29 [AV.ptr 1 0])), (33, 2, Cont.top)], 49, 6⟩) (by kernel_rfl) (by kernel_rfl) ?_
    refine evC_ret ?_
    refine post_ret ?_
    refine ends_go [33, 1] (AV.ptr 1 0) [(1, 0, Cont.cell AV.nils), (1, 1, Cont.cell (AV.fn 29 [AV.ptr 2 0])), (1, 2, Cont.top), (2, 0, Cont.cell (AV.fn 21 [])), (2, 1, Cont.top)] rfl (by decide) rfl rfl (has_of _ rfl) rfl ⟨⟨_, rfl, rfl⟩, ⟨_, rfl, rfl⟩, ⟨_, rfl, trivial⟩, ⟨_, rfl, rfl⟩, ⟨_, rfl, trivial⟩, trivial⟩ ⟨fun _ => ⟨1, _, rfl, rfl, rfl, ⟨has_of _ rfl, rfl⟩⟩, fun _ => ⟨1, _, rfl, rfl, rfl, ⟨has_of _ rfl, rfl⟩⟩, fun _ => ⟨1, _, rfl, rfl, rfl, trivial⟩, fun _ => ⟨2, _, rfl, rfl, rfl, ⟨has_of _ rfl, rfl⟩⟩, fun _ => ⟨2, _, rfl, rfl, rfl, trivial⟩, trivial⟩ (kept_nil _)
  · cases e
end Go.Eng.S13
