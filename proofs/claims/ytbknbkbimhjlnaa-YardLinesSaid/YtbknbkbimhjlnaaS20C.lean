/- Seat 20: the yard's small functions, walked: what each computes, for every argument that its contract names. -/
import Derived.Test.YtbknbkbimhjlnaaEngX
import Derived.Test.YtbknbkbimhjlnaaS20B
set_option linter.unusedSimpArgs false
set_option linter.unusedVariables false
namespace Go.Eng.S20
open Go.Proofs Go.IntWalk
set_option maxRecDepth 10000

def sStrong : Spec := fun args _ _ => match args with
  | [.int .i64 p] => some ⟨[], .bool (inR 0 16320 p), [], []⟩
  | _ => none
theorem strong_ok : SpecOK Try.prog 23 sStrong := by
  refine spec_own (by kernel_rfl) T_ok Γ1_ok Try.func23 rfl rfl fun args hr nb out e => ?_
  unfold sStrong at e
  split at e
  · rename_i p
    injection e with e; subst e
    refine ⟨(fun _ h => nomatch h), true, [.int .i64 p], rfl, fun hs => ⟨.cons _ _ _ _ (.same _ _ (flat_of _ rfl).has) .nil, ?_⟩⟩
    refine evC_go0 (dec := []) (ks := [(0, 0), (0, 2)]) (s' := ⟨[(0, 0, Cont.cell (AV.int IntKind.i64 p)), (0, 2, Cont.cell (AV.bool false))], 9, 6⟩) (by kernel_rfl) (by kernel_rfl) ?_
    refine evC_go (dec := []) (ks := [(0, 2)]) (ps := [(∀ (i : Nat), i < (1 : Nat) → pget [((0 : Nat), AV.int IntKind.i64 p)] i = AV.int IntKind.i64 (iv (pget [((0 : Nat), AV.int IntKind.i64 p)] i))) ∧ (1 : Nat) < (2 : Nat) ^ (63 : Nat)]) (s' := ⟨[(0, 2, Cont.cell (AV.bool (withinF 0 16320 1 (pget [(0, AV.int IntKind.i64 p)]))))], 41, 6⟩) (by kernel_rfl) (by kernel_rfl) ?_ ?_
    · simp only [All, ok1, small1, and_self]
    refine evC_ret ?_
    refine post_ret ?_
    refine ends_flat (vs := [AV.bool (withinF 0 16320 1 (pget [(0, AV.int IntKind.i64 p)]))]) (Nat.zero_lt_succ _) (by kernel_rfl) (flat_of _ (by kernel_rfl)) rfl ?_
    simp only [oneAV, lit1]
  · cases e

def clampF (x lo hi : Int) : Int := if x < lo then lo else mn2 x hi
def sClamp : Spec := fun args _ _ => match args with
  | [.int .i64 x, .int .i64 lo, .int .i64 hi] => some ⟨[], .int .i64 (clampF x lo hi), [], []⟩
  | _ => none
theorem clamp_ok : SpecOK Try.prog 27 sClamp := by
  refine spec_own (by kernel_rfl) T_ok (Γ := []) (fun f s h => by cases h) Try.func27 rfl rfl fun args hr nb out e => ?_
  unfold sClamp at e
  split at e
  · rename_i x lo hi
    injection e with e; subst e
    refine ⟨(fun _ h => nomatch h), true, [.int .i64 x, .int .i64 lo, .int .i64 hi], rfl, fun hs => ⟨.cons _ _ _ _ (.same _ _ (flat_of _ rfl).has) (.cons _ _ _ _ (.same _ _ (flat_of _ rfl).has) (.cons _ _ _ _ (.same _ _ (flat_of _ rfl).has) .nil)), ?_⟩⟩
    refine evC_go0 (dec := []) (ks := [(0, 0), (0, 1), (0, 2), (0, 6)]) (s' := ⟨[(0, 0, Cont.cell (AV.int IntKind.i64 x)), (0, 1, Cont.cell (AV.int IntKind.i64 lo)), (0, 2, Cont.cell (AV.int IntKind.i64 hi)), (0, 6, Cont.cell (AV.int IntKind.i64 0))], 9, 14⟩) (by kernel_rfl) (by kernel_rfl) ?_
    refine evC_seq ?_
    refine evC_go0 (dec := []) (ks := [(0, 0), (0, 1), (0, 2), (0, 6), (0, 9)]) (s' := ⟨[(0, 0, Cont.cell (AV.int IntKind.i64 x)), (0, 1, Cont.cell (AV.int IntKind.i64 lo)), (0, 2, Cont.cell (AV.int IntKind.i64 hi)), (0, 6, Cont.cell (AV.int IntKind.i64 0)), (0, 9, Cont.cell (AV.bool (decide (x < lo))))], 33, 14⟩) (by kernel_rfl) (by kernel_rfl) ?_
    refine evC_if (q := decide (x < lo)) (by kernel_rfl) (fun hc => ?_) (fun hc => ?_)
    · refine evC_go0 (dec := []) (ks := [(0, 0), (0, 2), (0, 6)]) (s' := ⟨[(0, 0, Cont.cell (AV.int IntKind.i64 x)), (0, 2, Cont.cell (AV.int IntKind.i64 hi)), (0, 6, Cont.cell (AV.int IntKind.i64 lo))], 49, 14⟩) (by kernel_rfl) (by kernel_rfl) ?_
      refine evC_ret ?_
      refine then_ret ?_
      refine post_ret ?_
      refine ends_flat (vs := [AV.int IntKind.i64 lo]) (Nat.zero_lt_succ _) (by kernel_rfl) (flat_of _ (by kernel_rfl)) rfl ?_
      have := of_decide_eq_true hc
      simp [oneAV, clampF, this]
    · refine evC_skip ?_
      refine then_normal ?_
      refine evC_go0 (dec := []) (ks := [(0, 6)]) (s' := ⟨[(0, 6, Cont.cell (AV.int IntKind.i64 (mn2 x hi)))], 65, 14⟩) (by kernel_rfl) (by kernel_rfl) ?_
      refine evC_ret ?_
      refine post_ret ?_
      refine ends_flat (vs := [AV.int IntKind.i64 (mn2 x hi)]) (Nat.zero_lt_succ _) (by kernel_rfl) (flat_of _ (by kernel_rfl)) rfl ?_
      have := of_decide_eq_false hc
      simp [oneAV, clampF, this]
  · cases e

def partF (c d n : Int) : Int := IntKind.i64.wrap ((IntKind.i64.wrap (c * d)).tdiv n)
def sTaken : Spec := fun args _ _ => match args with
  | [.agg [.int .i64 m, .int .i64 en, .int .i64 n, .int .i64 _], .int .i64 d] => some ⟨[n ≠ 0], .agg [.int .i64 (partF m d n), .int .i64 (partF en d n)], [], []⟩
  | _ => none
theorem taken_ok : SpecOK Try.prog 28 sTaken := by
  refine spec_own (by kernel_rfl) T_ok (Γ := []) (fun f s h => by cases h) Try.func28 rfl rfl fun args hr nb out e => ?_
  unfold sTaken at e
  split at e
  · rename_i m en n d0 d
    injection e with e; subst e
    refine ⟨(fun _ h => nomatch h), true, [.agg [.int .i64 m, .int .i64 en, .int .i64 n, .int .i64 d0], .int .i64 d], rfl, fun hs => ⟨.cons _ _ _ _ (.same _ _ (flat_of _ rfl).has) (.cons _ _ _ _ (.same _ _ (flat_of _ rfl).has) .nil), ?_⟩⟩
    have hn := hs _ List.mem_cons_self
    refine evC_go0 (dec := []) (ks := [(0, 1), (0, 2), (0, 4), (1, 0), (1, 1), (1, 2), (1, 3), (1, 4), (9, 0), (9, 1), (9, 2)]) (s' := ⟨[(0, 1, Cont.cell (AV.int IntKind.i64 d)), (0, 2, Cont.cell (AV.ptr 1 0)), (0, 4, Cont.cell (AV.ptr 9 0)), (1, 0, Cont.cell (AV.int IntKind.i64 m)), (1, 1, Cont.cell (AV.int IntKind.i64 en)), (1, 2, Cont.cell (AV.int IntKind.i64 n)), (1, 3, Cont.cell (AV.int IntKind.i64 d0)), (1, 4, Cont.top), (9, 0, Cont.cell (AV.int IntKind.i64 0)), (9, 1, Cont.cell (AV.int IntKind.i64 0)), (9, 2, Cont.top)], 17, 20⟩) (by kernel_rfl) (by kernel_rfl) ?_
    refine evC_go (dec := []) (ks := [(0, 4), (9, 0), (9, 1), (9, 2)]) (ps := [n ≠ (0 : Int), n ≠ (0 : Int)]) (s' := ⟨[(0, 4, Cont.cell (AV.ptr 9 0)), (9, 0, Cont.cell (AV.int IntKind.i64 (IntKind.i64.wrap (Int.tdiv (IntKind.i64.wrap (m * d)) n)))), (9, 1, Cont.cell (AV.int IntKind.i64 (IntKind.i64.wrap (Int.tdiv (IntKind.i64.wrap (en * d)) n)))), (9, 2, Cont.top)], 145, 20⟩) (by kernel_rfl) (by kernel_rfl) ?_ ?_
    · exact ⟨hn, hn⟩
    refine evC_ret ?_
    refine post_ret ?_
    refine ends_flat (vs := [AV.agg [AV.int IntKind.i64 (IntKind.i64.wrap (Int.tdiv (IntKind.i64.wrap (m * d)) n)), AV.int IntKind.i64 (IntKind.i64.wrap (Int.tdiv (IntKind.i64.wrap (en * d)) n))]]) (Nat.zero_lt_succ _) (by kernel_rfl) (flat_of _ (by kernel_rfl)) rfl ?_
    rfl
  · cases e

def sIn : Spec := fun args _ _ => match args with
  | [.int .i64 v, .int .i64 lo, .int .i64 hi] => some ⟨[], .bool (inR lo hi v), [], []⟩
  | _ => none
theorem in_ok : SpecOK Try.prog 24 sIn := by
  refine spec_own (by kernel_rfl) T_ok (Γ := []) (fun f s h => by cases h) Try.func24 rfl rfl fun args hr nb out e => ?_
  unfold sIn at e
  split at e
  · rename_i x lo hi
    injection e with e; subst e
    refine ⟨(fun _ h => nomatch h), true, [.int .i64 x, .int .i64 lo, .int .i64 hi], rfl, fun hs => ⟨.cons _ _ _ _ (.same _ _ (flat_of _ rfl).has) (.cons _ _ _ _ (.same _ _ (flat_of _ rfl).has) (.cons _ _ _ _ (.same _ _ (flat_of _ rfl).has) .nil)), ?_⟩⟩
    refine evC_go0 (dec := []) (ks := [(0, 0), (0, 1), (0, 2), (0, 6)]) (s' := ⟨[(0, 0, Cont.cell (AV.int IntKind.i64 x)), (0, 1, Cont.cell (AV.int IntKind.i64 lo)), (0, 2, Cont.cell (AV.int IntKind.i64 hi)), (0, 6, Cont.cell (AV.bool false))], 9, 15⟩) (by kernel_rfl) (by kernel_rfl) ?_
    refine evC_go0 (dec := []) (ks := [(0, 6)]) (s' := ⟨[(0, 6, Cont.cell (AV.bool (bif decide (lo ≤ x) then decide (x ≤ hi) else false)))], 81, 15⟩) (by kernel_rfl) (by kernel_rfl) ?_
    refine evC_ret ?_
    refine post_ret ?_
    refine ends_flat (vs := [AV.bool (bif decide (lo ≤ x) then decide (x ≤ hi) else false)]) (Nat.zero_lt_succ _) (by kernel_rfl) (flat_of _ (by kernel_rfl)) rfl ?_
    simp [oneAV, inR, cond_and]
  · cases e

theorem sget_cons {P : Program} {f : Nat} {s : Spec} {Γ : Specs} (h : SpecOK P f s) (t : SpecsOK P Γ) : SpecsOK P ((f, s) :: Γ) := by
  intro f' s' e
  simp only [sget] at e
  cases hf : (f == f') with
  | true =>
    simp only [hf, cond_true, Option.some.injEq] at e
    have : f = f' := by simpa using hf
    subst this; subst e; exact h
  | false => simp only [hf, cond_false] at e; exact t f' s' e
theorem sget_nil {P : Program} : SpecsOK P [] := fun f s h => by cases h

theorem power_ok : SpecOK Try.prog 10 sStrong := by
  refine spec_own (by kernel_rfl) T_ok (sget_cons in_ok sget_nil) Try.func10 rfl rfl fun args hr nb out e => ?_
  unfold sStrong at e
  split at e
  · rename_i p
    injection e with e; subst e
    refine ⟨(fun _ h => nomatch h), true, [.int .i64 p], rfl, fun hs => ⟨.cons _ _ _ _ (.same _ _ (flat_of _ rfl).has) .nil, ?_⟩⟩
    refine evC_go0 (dec := []) (ks := [(0, 0), (0, 2)]) (s' := ⟨[(0, 0, Cont.cell (AV.int IntKind.i64 p)), (0, 2, Cont.cell (AV.bool false))], 9, 5⟩) (by kernel_rfl) (by kernel_rfl) ?_
    refine evC_go0 (dec := []) (ks := [(0, 2)]) (s' := ⟨[(0, 2, Cont.cell (AV.bool (inR 0 16320 p)))], 33, 5⟩) (by kernel_rfl) (by kernel_rfl) ?_
    refine evC_ret ?_
    refine post_ret ?_
    refine ends_flat (vs := [AV.bool (inR 0 16320 p)]) (Nat.zero_lt_succ _) (by kernel_rfl) (flat_of _ (by kernel_rfl)) rfl ?_
    rfl
  · cases e
end Go.Eng.S20
