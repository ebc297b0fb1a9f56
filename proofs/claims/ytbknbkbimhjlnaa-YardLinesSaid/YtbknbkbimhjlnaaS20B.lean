/- Seat 20: the yard's 'May', walked: what each computes, for every argument that its contract names. -/
import Derived.Test.YtbknbkbimhjlnaaEngX
import Derived.Test.YtbknbkbimhjlnaaS20A
set_option linter.unusedSimpArgs false
set_option linter.unusedVariables false
namespace Go.Eng.S20
open Go.Proofs Go.IntWalk
set_option maxRecDepth 10000

def Γ1 : Specs := [(26, sWithin)]
theorem Γ1_ok : SpecsOK Try.prog Γ1 := by
  intro f s h
  simp only [Γ1, sget] at h
  cases hf : (26 == f) with
  | true => simp only [hf, cond_true, Option.some.injEq] at h; have : 26 = f := by simpa using hf
            subst this; subst h; exact within_ok
  | false => simp [hf] at h

theorem within1 (lo hi x : Int) (f : Nat → AV) (k : IntKind) (h : f 0 = .int k x) : withinF lo hi 1 f = inR lo hi x := by
  simp [withinF, h, iv, inR, List.range_succ]
theorem within2 (lo hi x y : Int) (f : Nat → AV) (k k' : IntKind) (h : f 0 = .int k x) (h' : f 1 = .int k' y) : withinF lo hi 2 f = (inR lo hi x && inR lo hi y) := by
  simp [withinF, h, h', iv, inR, List.range_succ]

theorem lit1 (lo hi x : Int) : (withinF lo hi 1 (pget [(0, AV.int .i64 x)])) = inR lo hi x := within1 lo hi x _ .i64 rfl
theorem lit2 (lo hi x y : Int) : (withinF lo hi 2 (pget [(0, AV.int .i64 x), (1, AV.int .i64 y)])) = (inR lo hi x && inR lo hi y) := within2 lo hi x y _ .i64 .i64 rfl rfl
theorem ok1 (x : Int) : (∀ i, i < 1 → pget [(0, AV.int .i64 x)] i = AV.int .i64 (iv (pget [(0, AV.int .i64 x)] i))) = True := by
  refine eq_true fun i hi => ?_
  have : i = 0 := by omega
  subst this; rfl
theorem ok2 (x y : Int) : (∀ i, i < 2 → pget [(0, AV.int .i64 x), (1, AV.int .i64 y)] i = AV.int .i64 (iv (pget [(0, AV.int .i64 x), (1, AV.int .i64 y)] i))) = True := by
  refine eq_true fun i hi => ?_
  rcases (by omega : i = 0 ∨ i = 1) with rfl | rfl <;> rfl
theorem small1 : (1 < 2 ^ 63) = True := eq_true (by decide)
theorem small2 : (2 < 2 ^ 63) = True := eq_true (by decide)
def mayF (m e n d : Int) : Bool := inR 0 65535 m && inR 0 65535 e && inR 1 65535 n && inR 0 n d
def sMay : Spec := fun args _ _ => match args with
  | [.agg [.int .i64 m, .int .i64 e, .int .i64 n, .int .i64 d]] => some ⟨[], .bool (mayF m e n d), [], []⟩
  | _ => none

theorem may_ok : SpecOK Try.prog 17 sMay := by
  refine spec_own (by kernel_rfl) T_ok Γ1_ok Try.func17 rfl rfl fun args hr nb out e => ?_
  unfold sMay at e
  split at e
  · rename_i m en n d
    injection e with e; subst e
    refine ⟨(fun _ h => nomatch h), true, [.agg [.int .i64 m, .int .i64 en, .int .i64 n, .int .i64 d]], rfl, fun hs => ⟨.cons _ _ _ _ (.same _ _ (flat_of _ rfl).has) .nil, ?_⟩⟩
    cases hA : inR 0 65535 m && inR 0 65535 en with
    | false =>
      refine evC_go0 (dec := []) (ks := [(0, 1), (0, 2), (1, 0), (1, 1), (1, 2), (1, 3), (1, 4)]) (s' := ⟨[(0, 1, Cont.cell (AV.ptr 1 0)), (0, 2, Cont.cell (AV.bool false)), (1, 0, Cont.cell (AV.int IntKind.i64 m)), (1, 1, Cont.cell (AV.int IntKind.i64 en)), (1, 2, Cont.cell (AV.int IntKind.i64 n)), (1, 3, Cont.cell (AV.int IntKind.i64 d)), (1, 4, Cont.top)], 17, 23⟩) (by kernel_rfl) (by kernel_rfl) ?_
      refine evC_go (dec := [(7, false), (8, false), (9, false), (10, false), (13, false), (14, false), (15, false), (16, false), (17, false), (18, false)]) (ks := [(0, 2)]) (ps := [(∀ (i : Nat), i < (2 : Nat) → pget [((0 : Nat), AV.int IntKind.i64 m), ((1 : Nat), AV.int IntKind.i64 en)] i = AV.int IntKind.i64 (iv (pget [((0 : Nat), AV.int IntKind.i64 m), ((1 : Nat), AV.int IntKind.i64 en)] i))) ∧ (2 : Nat) < (2 : Nat) ^ (63 : Nat), List.all [withinF (0 : Int) (65535 : Int) (2 : Nat) (pget [((0 : Nat), AV.int IntKind.i64 m), ((1 : Nat), AV.int IntKind.i64 en)])] id = false, List.all [withinF (0 : Int) (65535 : Int) (2 : Nat) (pget [((0 : Nat), AV.int IntKind.i64 m), ((1 : Nat), AV.int IntKind.i64 en)])] id = false, List.all [withinF (0 : Int) (65535 : Int) (2 : Nat) (pget [((0 : Nat), AV.int IntKind.i64 m), ((1 : Nat), AV.int IntKind.i64 en)])] id = false, List.all [withinF (0 : Int) (65535 : Int) (2 : Nat) (pget [((0 : Nat), AV.int IntKind.i64 m), ((1 : Nat), AV.int IntKind.i64 en)])] id = false, withinF (0 : Int) (65535 : Int) (2 : Nat) (pget [((0 : Nat), AV.int IntKind.i64 m), ((1 : Nat), AV.int IntKind.i64 en)]) = false, List.all [false] id = false, List.all [false] id = false, List.all [false] id = false, List.all [false] id = false, List.all [false] id = false, List.all [false] id = false, false = false]) (s' := ⟨[(0, 2, Cont.cell (AV.bool false))], 185, 23⟩) (by kernel_rfl) (by kernel_rfl) ?_ ?_
      · simp only [All, lit1, lit2, ok1, ok2, small1, small2, cond_and, id_one, id_one', hA, and_self]
      refine evC_ret ?_
      refine post_ret ?_
      refine ends_flat (vs := [AV.bool false]) (Nat.zero_lt_succ _) (by kernel_rfl) (flat_of _ (by kernel_rfl)) rfl ?_
      simp [mayF, oneAV, hA]
    | true => 
      cases hB : inR 1 65535 n with
      | false =>
        refine evC_go0 (dec := []) (ks := [(0, 1), (0, 2), (1, 0), (1, 1), (1, 2), (1, 3), (1, 4)]) (s' := ⟨[(0, 1, Cont.cell (AV.ptr 1 0)), (0, 2, Cont.cell (AV.bool false)), (1, 0, Cont.cell (AV.int IntKind.i64 m)), (1, 1, Cont.cell (AV.int IntKind.i64 en)), (1, 2, Cont.cell (AV.int IntKind.i64 n)), (1, 3, Cont.cell (AV.int IntKind.i64 d)), (1, 4, Cont.top)], 17, 23⟩) (by kernel_rfl) (by kernel_rfl) ?_
        refine evC_go (dec := [(7, true), (8, true), (9, true), (10, true), (13, false), (14, false), (15, false), (16, false), (17, false), (18, false)]) (ks := [(0, 2)]) (ps := [(∀ (i : Nat), i < (2 : Nat) → pget [((0 : Nat), AV.int IntKind.i64 m), ((1 : Nat), AV.int IntKind.i64 en)] i = AV.int IntKind.i64 (iv (pget [((0 : Nat), AV.int IntKind.i64 m), ((1 : Nat), AV.int IntKind.i64 en)] i))) ∧ (2 : Nat) < (2 : Nat) ^ (63 : Nat), List.all [withinF (0 : Int) (65535 : Int) (2 : Nat) (pget [((0 : Nat), AV.int IntKind.i64 m), ((1 : Nat), AV.int IntKind.i64 en)])] id = true, List.all [withinF (0 : Int) (65535 : Int) (2 : Nat) (pget [((0 : Nat), AV.int IntKind.i64 m), ((1 : Nat), AV.int IntKind.i64 en)])] id = true, List.all [withinF (0 : Int) (65535 : Int) (2 : Nat) (pget [((0 : Nat), AV.int IntKind.i64 m), ((1 : Nat), AV.int IntKind.i64 en)])] id = true, List.all [withinF (0 : Int) (65535 : Int) (2 : Nat) (pget [((0 : Nat), AV.int IntKind.i64 m), ((1 : Nat), AV.int IntKind.i64 en)])] id = true, (∀ (i : Nat), i < (1 : Nat) → pget [((0 : Nat), AV.int IntKind.i64 n)] i = AV.int IntKind.i64 (iv (pget [((0 : Nat), AV.int IntKind.i64 n)] i))) ∧ (1 : Nat) < (2 : Nat) ^ (63 : Nat), List.all [bif withinF (0 : Int) (65535 : Int) (2 : Nat) (pget [((0 : Nat), AV.int IntKind.i64 m), ((1 : Nat), AV.int IntKind.i64 en)]) then withinF (1 : Int) (65535 : Int) (1 : Nat) (pget [((0 : Nat), AV.int IntKind.i64 n)]) else false] id = false, List.all [bif withinF (0 : Int) (65535 : Int) (2 : Nat) (pget [((0 : Nat), AV.int IntKind.i64 m), ((1 : Nat), AV.int IntKind.i64 en)]) then withinF (1 : Int) (65535 : Int) (1 : Nat) (pget [((0 : Nat), AV.int IntKind.i64 n)]) else false] id = false, List.all [bif withinF (0 : Int) (65535 : Int) (2 : Nat) (pget [((0 : Nat), AV.int IntKind.i64 m), ((1 : Nat), AV.int IntKind.i64 en)]) then withinF (1 : Int) (65535 : Int) (1 : Nat) (pget [((0 : Nat), AV.int IntKind.i64 n)]) else false] id = false, List.all [bif withinF (0 : Int) (65535 : Int) (2 : Nat) (pget [((0 : Nat), AV.int IntKind.i64 m), ((1 : Nat), AV.int IntKind.i64 en)]) then withinF (1 : Int) (65535 : Int) (1 : Nat) (pget [((0 : Nat), AV.int IntKind.i64 n)]) else false] id = false, List.all [bif withinF (0 : Int) (65535 : Int) (2 : Nat) (pget [((0 : Nat), AV.int IntKind.i64 m), ((1 : Nat), AV.int IntKind.i64 en)]) then withinF (1 : Int) (65535 : Int) (1 : Nat) (pget [((0 : Nat), AV.int IntKind.i64 n)]) else false] id = false, List.all [bif withinF (0 : Int) (65535 : Int) (2 : Nat) (pget [((0 : Nat), AV.int IntKind.i64 m), ((1 : Nat), AV.int IntKind.i64 en)]) then withinF (1 : Int) (65535 : Int) (1 : Nat) (pget [((0 : Nat), AV.int IntKind.i64 n)]) else false] id = false, (bif withinF (0 : Int) (65535 : Int) (2 : Nat) (pget [((0 : Nat), AV.int IntKind.i64 m), ((1 : Nat), AV.int IntKind.i64 en)]) then withinF (1 : Int) (65535 : Int) (1 : Nat) (pget [((0 : Nat), AV.int IntKind.i64 n)]) else false) = false]) (s' := ⟨[(0, 2, Cont.cell (AV.bool false))], 185, 23⟩) (by kernel_rfl) (by kernel_rfl) ?_ ?_
        · simp only [All, lit1, lit2, ok1, ok2, small1, small2, cond_and, id_one, id_one', hA, hB, Bool.and_true, Bool.true_and, Bool.and_false, and_self]
        refine evC_ret ?_
        refine post_ret ?_
        refine ends_flat (vs := [AV.bool false]) (Nat.zero_lt_succ _) (by kernel_rfl) (flat_of _ (by kernel_rfl)) rfl ?_
        simp [mayF, oneAV, hA, hB]
      | true => 
        refine evC_go0 (dec := []) (ks := [(0, 1), (0, 2), (1, 0), (1, 1), (1, 2), (1, 3), (1, 4)]) (s' := ⟨[(0, 1, Cont.cell (AV.ptr 1 0)), (0, 2, Cont.cell (AV.bool false)), (1, 0, Cont.cell (AV.int IntKind.i64 m)), (1, 1, Cont.cell (AV.int IntKind.i64 en)), (1, 2, Cont.cell (AV.int IntKind.i64 n)), (1, 3, Cont.cell (AV.int IntKind.i64 d)), (1, 4, Cont.top)], 17, 23⟩) (by kernel_rfl) (by kernel_rfl) ?_
        refine evC_go (dec := [(7, true), (8, true), (9, true), (10, true), (13, true), (14, true), (15, true), (16, true), (17, true), (18, true)]) (ks := [(0, 2)]) (ps := [(∀ (i : Nat), i < (2 : Nat) → pget [((0 : Nat), AV.int IntKind.i64 m), ((1 : Nat), AV.int IntKind.i64 en)] i = AV.int IntKind.i64 (iv (pget [((0 : Nat), AV.int IntKind.i64 m), ((1 : Nat), AV.int IntKind.i64 en)] i))) ∧ (2 : Nat) < (2 : Nat) ^ (63 : Nat), List.all [withinF (0 : Int) (65535 : Int) (2 : Nat) (pget [((0 : Nat), AV.int IntKind.i64 m), ((1 : Nat), AV.int IntKind.i64 en)])] id = true, List.all [withinF (0 : Int) (65535 : Int) (2 : Nat) (pget [((0 : Nat), AV.int IntKind.i64 m), ((1 : Nat), AV.int IntKind.i64 en)])] id = true, List.all [withinF (0 : Int) (65535 : Int) (2 : Nat) (pget [((0 : Nat), AV.int IntKind.i64 m), ((1 : Nat), AV.int IntKind.i64 en)])] id = true, List.all [withinF (0 : Int) (65535 : Int) (2 : Nat) (pget [((0 : Nat), AV.int IntKind.i64 m), ((1 : Nat), AV.int IntKind.i64 en)])] id = true, (∀ (i : Nat), i < (1 : Nat) → pget [((0 : Nat), AV.int IntKind.i64 n)] i = AV.int IntKind.i64 (iv (pget [((0 : Nat), AV.int IntKind.i64 n)] i))) ∧ (1 : Nat) < (2 : Nat) ^ (63 : Nat), List.all [bif withinF (0 : Int) (65535 : Int) (2 : Nat) (pget [((0 : Nat), AV.int IntKind.i64 m), ((1 : Nat), AV.int IntKind.i64 en)]) then withinF (1 : Int) (65535 : Int) (1 : Nat) (pget [((0 : Nat), AV.int IntKind.i64 n)]) else false] id = true, List.all [bif withinF (0 : Int) (65535 : Int) (2 : Nat) (pget [((0 : Nat), AV.int IntKind.i64 m), ((1 : Nat), AV.int IntKind.i64 en)]) then withinF (1 : Int) (65535 : Int) (1 : Nat) (pget [((0 : Nat), AV.int IntKind.i64 n)]) else false] id = true, List.all [bif withinF (0 : Int) (65535 : Int) (2 : Nat) (pget [((0 : Nat), AV.int IntKind.i64 m), ((1 : Nat), AV.int IntKind.i64 en)]) then withinF (1 : Int) (65535 : Int) (1 : Nat) (pget [((0 : Nat), AV.int IntKind.i64 n)]) else false] id = true, List.all [bif withinF (0 : Int) (65535 : Int) (2 : Nat) (pget [((0 : Nat), AV.int IntKind.i64 m), ((1 : Nat), AV.int IntKind.i64 en)]) then withinF (1 : Int) (65535 : Int) (1 : Nat) (pget [((0 : Nat), AV.int IntKind.i64 n)]) else false] id = true, List.all [bif withinF (0 : Int) (65535 : Int) (2 : Nat) (pget [((0 : Nat), AV.int IntKind.i64 m), ((1 : Nat), AV.int IntKind.i64 en)]) then withinF (1 : Int) (65535 : Int) (1 : Nat) (pget [((0 : Nat), AV.int IntKind.i64 n)]) else false] id = true, List.all [bif withinF (0 : Int) (65535 : Int) (2 : Nat) (pget [((0 : Nat), AV.int IntKind.i64 m), ((1 : Nat), AV.int IntKind.i64 en)]) then withinF (1 : Int) (65535 : Int) (1 : Nat) (pget [((0 : Nat), AV.int IntKind.i64 n)]) else false] id = true, (∀ (i : Nat), i < (1 : Nat) → pget [((0 : Nat), AV.int IntKind.i64 d)] i = AV.int IntKind.i64 (iv (pget [((0 : Nat), AV.int IntKind.i64 d)] i))) ∧ (1 : Nat) < (2 : Nat) ^ (63 : Nat)]) (s' := ⟨[(0, 2, Cont.cell (AV.bool (bif bif withinF 0 65535 2 (pget [(0, AV.int IntKind.i64 m), (1, AV.int IntKind.i64 en)]) then withinF 1 65535 1 (pget [(0, AV.int IntKind.i64 n)]) else false then withinF 0 n 1 (pget [(0, AV.int IntKind.i64 d)]) else false)))], 185, 23⟩) (by kernel_rfl) (by kernel_rfl) ?_ ?_
        · simp only [All, lit1, lit2, ok1, ok2, small1, small2, cond_and, id_one, id_one', hA, hB, Bool.and_true, Bool.true_and, Bool.and_false, and_self]
        refine evC_ret ?_
        refine post_ret ?_
        refine ends_flat (vs := [AV.bool (bif bif withinF 0 65535 2 (pget [(0, AV.int IntKind.i64 m), (1, AV.int IntKind.i64 en)]) then withinF 1 65535 1 (pget [(0, AV.int IntKind.i64 n)]) else false then withinF 0 n 1 (pget [(0, AV.int IntKind.i64 d)]) else false)]) (Nat.zero_lt_succ _) (by kernel_rfl) (flat_of _ (by kernel_rfl)) rfl ?_
        simp only [lit1, lit2, cond_and]
        simp [mayF, oneAV, hA, hB]
  · cases e
end Go.Eng.S20
