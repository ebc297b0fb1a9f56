/- Seat top, land: all hits, walked. -/
import Derived.Test.YthfpdhhnokhldaaEngX
import Derived.Test.YthfpdhhnokhldaaS27J
set_option linter.unusedSimpArgs false
set_option linter.unusedVariables false
namespace Go.Eng.S27
open Go.Proofs Go.IntWalk
set_option maxRecDepth 10000

def sAll : Spec := fun args hr nb => match args with
  | [.agg [.int .i64 W, .int .i64 H, .int .i64 A, v], .rs 4 k b q] => match sl 1 hr v with
    | some (n, f, rd) => some ⟨[IsU n f, (∀ i, i < k → q i = nH (Hf q) i)],
      .tup [.agg [.int .i64 (bif stE W H A n (Hf q) k != 0 then 0 else W), .int .i64 (bif stE W H A n (Hf q) k != 0 then 0 else H), .int .i64 (bif stE W H A n (Hf q) k != 0 then 0 else A), .vs nb], .int .i64 (stE W H A n (Hf q) k)], rd,
      [(nb, 0, .vec 1 5 (bif stE W H A n (Hf q) k != 0 then 0 else n) (nU (stN W (Hf q) (U f) k)))]⟩
    | none => none
  | _ => none
theorem all_ok : SpecOK Try.prog 7 sAll := by
  refine spec_own (by kernel_rfl) T_ok (sget_cons values_ok (sget_cons strikes_ok sget_nil)) Try.func7 rfl rfl fun args hr nb out e => ?_
  unfold sAll at e
  split at e
  · rename_i W H A v k b q
    split at e
    · rename_i n f rd hs1
      injection e with e; subst e
      refine ⟨fun x hx => sl_rd hs1 x hx, false, [mp4 W H A n (U f), .rs 4 k false (nH (Hf q))], rfl, fun hs => ?_⟩
      have h1 := hs _ List.mem_cons_self
      have h2 := hs _ (List.mem_cons_of_mem _ List.mem_cons_self)
      refine ⟨map_pass hs1 (fun y hy => ⟨hy, by simp⟩) h1 (.cons _ _ _ _ (.rs _ _ _ _ _ _ fun i hi => ⟨h2 i hi, (nH_flat _ i).has⟩) .nil), ?_⟩
      have i1 : IsU n (nU (U f)) := isU fun i hi => (h1.get i hi).2
      clear hs h1 h2
      generalize U f = u at i1 ⊢
      generalize Hf q = q
      unfold mp4
      refine evC_go0 (dec := []) (ks := [(0, 1), (0, 2), (0, 4), (0, 5), (1, 0), (1, 1), (1, 2), (1, 3), (1, 4), (9, 0), (9, 1), (9, 2), (9, 3), (9, 4)]) (s' := ⟨[(0, 1, Cont.cell (AV.rs 4 k false (nH q))), (0, 2, Cont.cell (AV.ptr 1 0)), (0, 4, Cont.cell (AV.ptr 9 0)), (0, 5, Cont.cell (AV.int IntKind.i64 0)), (1, 0, Cont.cell (AV.int IntKind.i64 W)), (1, 1, Cont.cell (AV.int IntKind.i64 H)), (1, 2, Cont.cell (AV.int IntKind.i64 A)), (1, 3, Cont.cell (AV.rs 1 n false (nU u))), (1, 4, Cont.top), (9, 0, Cont.cell (AV.int IntKind.i64 0)), (9, 1, Cont.cell (AV.int IntKind.i64 0)), (9, 2, Cont.cell (AV.int IntKind.i64 0)), (9, 3, Cont.cell AV.nils), (9, 4, Cont.top)], 25, 12⟩) (by kernel_rfl) (by kernel_rfl) ?_
      refine evC_go (dec := []) (ks := [(0, 4), (0, 5), (9, 0), (9, 1), (9, 2), (9, 3), (9, 4), (49, 0)]) (ps := [∀ (i : Nat), i < k → nH q i = nH (Hf (nH q)) i, IsU n (nU u), nH (Hf (nH q)) = nH (Hf (nH (Hf (nH q))))]) (s' := ⟨[(0, 4, Cont.cell (AV.ptr 9 0)), (0, 5, Cont.cell (AV.int IntKind.i64 (stE W H A n (Hf (nH (Hf (nH q)))) k))), (9, 0, Cont.cell (AV.int IntKind.i64 (bif stE W H A n (Hf (nH (Hf (nH q)))) k != 0 then 0 else W))), (9, 1, Cont.cell (AV.int IntKind.i64 (bif stE W H A n (Hf (nH (Hf (nH q)))) k != 0 then 0 else H))), (9, 2, Cont.cell (AV.int IntKind.i64 (bif stE W H A n (Hf (nH (Hf (nH q)))) k != 0 then 0 else A))), (9, 3, Cont.cell (AV.vs 49)), (9, 4, Cont.top), (49, 0, Cont.vec 1 5 (bif stE W H A n (Hf (nH (Hf (nH q)))) k != 0 then 0 else n) (nU (stN W (Hf (nH (Hf (nH q)))) (U (nU u)) k)))], 89, 12⟩) (by kernel_rfl) (by kernel_rfl) ?_ ?_
      · exact ⟨fun _ _ => rfl, i1, rfl⟩
      rw [U_nU, Hf_nH, Hf_nH]
      refine evC_ret ?_
      refine post_ret ?_
      refine ends_go [49] (AV.tup [AV.agg [AV.int IntKind.i64 (bif stE W H A n q k != 0 then 0 else W), AV.int IntKind.i64 (bif stE W H A n q k != 0 then 0 else H), AV.int IntKind.i64 (bif stE W H A n q k != 0 then 0 else A), AV.vs 1], AV.int IntKind.i64 (stE W H A n q k)]) [(1, 0, Cont.vec 1 5 (bif stE W H A n q k != 0 then 0 else n) (nU (stN W q u k)))] rfl (by decide) rfl rfl (has_of _ rfl) rfl ⟨⟨_, rfl, ⟨rfl, rfl, rfl, fun _ _ => rfl⟩⟩, trivial⟩ ⟨fun _ => ⟨1, _, rfl, rfl, rfl, ⟨rfl, rfl, rfl, fun _ _ => ⟨has_of _ rfl, rfl⟩⟩⟩, trivial⟩ (kept_nil _)
    · cases e
  · cases e
end Go.Eng.S27
