/- Seat 20: the document's functions and the law YardWorks, walked: what each computes, for every argument that its contract names. -/
import Derived.Test.YtbknbkbimhjlnaaEngX
import Derived.Test.YtbknbkbimhjlnaaS20E
import Derived.OpenShut
set_option linter.unusedSimpArgs false
set_option linter.unusedVariables false
namespace Go.Eng.S20
open Go.Proofs Go.IntWalk
set_option maxRecDepth 10000

def i64R (x : Int) : Prop := -9223372036854775808 ≤ x ∧ x ≤ 9223372036854775807

theorem refMay_ok : SpecOK Try.prog 9 sMay := by
  refine spec_own (by kernel_rfl) T_ok (sget_cons in_ok sget_nil) Try.func9 rfl rfl fun args hr nb out e => ?_
  unfold sMay at e
  split at e
  · rename_i m en n d
    injection e with e; subst e
    refine ⟨(fun _ h => nomatch h), true, [.agg [.int .i64 m, .int .i64 en, .int .i64 n, .int .i64 d]], rfl, fun hs => ⟨.cons _ _ _ _ (.same _ _ (flat_of _ rfl).has) .nil, ?_⟩⟩
    refine evC_go0 (dec := []) (ks := [(0, 1), (0, 2), (1, 0), (1, 1), (1, 2), (1, 3), (1, 4)]) (s' := ⟨[(0, 1, Cont.cell (AV.ptr 1 0)), (0, 2, Cont.cell (AV.bool false)), (1, 0, Cont.cell (AV.int IntKind.i64 m)), (1, 1, Cont.cell (AV.int IntKind.i64 en)), (1, 2, Cont.cell (AV.int IntKind.i64 n)), (1, 3, Cont.cell (AV.int IntKind.i64 d)), (1, 4, Cont.top)], 17, 23⟩) (by kernel_rfl) (by kernel_rfl) ?_
    refine evC_go0 (dec := []) (ks := [(0, 2)]) (s' := ⟨[(0, 2, Cont.cell (AV.bool (bif bif bif inR 0 65535 m then inR 0 65535 en else false then inR 1 65535 n else false then inR 0 n d else false)))], 185, 23⟩) (by kernel_rfl) (by kernel_rfl) ?_
    refine evC_ret ?_
    refine post_ret ?_
    refine ends_flat (vs := [AV.bool (bif bif bif inR 0 65535 m then inR 0 65535 en else false then inR 1 65535 n else false then inR 0 n d else false)]) (Nat.zero_lt_succ _) (by kernel_rfl) (flat_of _ (by kernel_rfl)) rfl ?_
    simp [oneAV, mayF, cond_and]
  · cases e

def leastF (a b : Int) : Int := if a < b then a else b
def sLeast : Spec := fun args _ _ => match args with
  | [.int .i64 a, .int .i64 b] => some ⟨[], .int .i64 (leastF a b), [], []⟩
  | _ => none
theorem least_ok : SpecOK Try.prog 25 sLeast := by
  refine spec_own (by kernel_rfl) T_ok (Γ := []) (fun f s h => by cases h) Try.func25 rfl rfl fun args hr nb out e => ?_
  unfold sLeast at e
  split at e
  · rename_i a b
    injection e with e; subst e
    refine ⟨(fun _ h => nomatch h), true, [.int .i64 a, .int .i64 b], rfl, fun hs => ⟨.cons _ _ _ _ (.same _ _ (flat_of _ rfl).has) (.cons _ _ _ _ (.same _ _ (flat_of _ rfl).has) .nil), ?_⟩⟩
    refine evC_go0 (dec := []) (ks := [(0, 0), (0, 1), (0, 4)]) (s' := ⟨[(0, 0, Cont.cell (AV.int IntKind.i64 a)), (0, 1, Cont.cell (AV.int IntKind.i64 b)), (0, 4, Cont.cell (AV.int IntKind.i64 0))], 9, 10⟩) (by kernel_rfl) (by kernel_rfl) ?_
    refine evC_seq ?_
    refine evC_go0 (dec := []) (ks := [(0, 0), (0, 1), (0, 4), (0, 7)]) (s' := ⟨[(0, 0, Cont.cell (AV.int IntKind.i64 a)), (0, 1, Cont.cell (AV.int IntKind.i64 b)), (0, 4, Cont.cell (AV.int IntKind.i64 0)), (0, 7, Cont.cell (AV.bool (decide (a < b))))], 33, 10⟩) (by kernel_rfl) (by kernel_rfl) ?_
    refine evC_if (q := decide (a < b)) (by kernel_rfl) (fun hc => ?_) (fun hc => ?_)
    · refine evC_go0 (dec := []) (ks := [(0, 1), (0, 4)]) (s' := ⟨[(0, 1, Cont.cell (AV.int IntKind.i64 b)), (0, 4, Cont.cell (AV.int IntKind.i64 a))], 49, 10⟩) (by kernel_rfl) (by kernel_rfl) ?_
      refine evC_ret ?_
      refine then_ret ?_
      refine post_ret ?_
      refine ends_flat (vs := [AV.int IntKind.i64 a]) (Nat.zero_lt_succ _) (by kernel_rfl) (flat_of _ (by kernel_rfl)) rfl ?_
      simp [oneAV, leastF, of_decide_eq_true hc]
    · refine evC_skip ?_
      refine then_normal ?_
      refine evC_go0 (dec := []) (ks := [(0, 4)]) (s' := ⟨[(0, 4, Cont.cell (AV.int IntKind.i64 b))], 49, 10⟩) (by kernel_rfl) (by kernel_rfl) ?_
      refine evC_ret ?_
      refine post_ret ?_
      refine ends_flat (vs := [AV.int IntKind.i64 b]) (Nat.zero_lt_succ _) (by kernel_rfl) (flat_of _ (by kernel_rfl)) rfl ?_
      simp [oneAV, leastF, of_decide_eq_false hc]
  · cases e

def refWorkF (n d p sc : Int) : Int := leastF n (IntKind.i64.wrap (d + IntKind.i64.wrap ((IntKind.i64.wrap (p * sc)).tdiv 65536)))
def sRefWork : Spec := fun args _ _ => match args with
  | [.agg [.int .i64 m, .int .i64 en, .int .i64 n, .int .i64 d], .int .i64 p, .int .i64 sc] => some ⟨[], .int .i64 (refWorkF n d p sc), [], []⟩
  | _ => none
theorem refWork_ok : SpecOK Try.prog 12 sRefWork := by
  refine spec_own (by kernel_rfl) T_ok (sget_cons least_ok sget_nil) Try.func12 rfl rfl fun args hr nb out e => ?_
  unfold sRefWork at e
  split at e
  · rename_i m en n d p sc
    injection e with e; subst e
    refine ⟨(fun _ h => nomatch h), true, [.agg [.int .i64 m, .int .i64 en, .int .i64 n, .int .i64 d], .int .i64 p, .int .i64 sc], rfl, fun hs => ⟨.cons _ _ _ _ (.same _ _ (flat_of _ rfl).has) (.cons _ _ _ _ (.same _ _ (flat_of _ rfl).has) (.cons _ _ _ _ (.same _ _ (flat_of _ rfl).has) .nil)), ?_⟩⟩
    refine evC_go0 (dec := []) (ks := [(0, 1), (0, 2), (0, 3), (0, 6), (1, 0), (1, 1), (1, 2), (1, 3), (1, 4)]) (s' := ⟨[(0, 1, Cont.cell (AV.int IntKind.i64 p)), (0, 2, Cont.cell (AV.int IntKind.i64 sc)), (0, 3, Cont.cell (AV.ptr 1 0)), (0, 6, Cont.cell (AV.int IntKind.i64 0)), (1, 0, Cont.cell (AV.int IntKind.i64 m)), (1, 1, Cont.cell (AV.int IntKind.i64 en)), (1, 2, Cont.cell (AV.int IntKind.i64 n)), (1, 3, Cont.cell (AV.int IntKind.i64 d)), (1, 4, Cont.top)], 17, 17⟩) (by kernel_rfl) (by kernel_rfl) ?_
    refine evC_go (dec := []) (ks := [(0, 6)]) (ps := [(65536 : Int) ≠ (0 : Int)]) (s' := ⟨[(0, 6, Cont.cell (AV.int IntKind.i64 (leastF n (IntKind.i64.wrap (d + IntKind.i64.wrap (Int.tdiv (IntKind.i64.wrap (p * sc)) 65536))))))], 105, 17⟩) (by kernel_rfl) (by kernel_rfl) ?_ ?_
    · simp [All]
    refine evC_ret ?_
    refine post_ret ?_
    refine ends_flat (vs := [AV.int IntKind.i64 (leastF n (IntKind.i64.wrap (d + IntKind.i64.wrap (Int.tdiv (IntKind.i64.wrap (p * sc)) 65536))))]) (Nat.zero_lt_succ _) (by kernel_rfl) (flat_of _ (by kernel_rfl)) rfl ?_
    rfl
  · cases e

def sYardWorks : Spec := fun args _ _ => match args with
  | [.agg [.int .i64 m, .int .i64 en, .int .i64 n, .int .i64 d], .int .i64 p, .int .i64 sc] => some ⟨[i64R m, i64R en, i64R n, i64R d, i64R p, i64R sc], .bool true, [], []⟩
  | _ => none
theorem yardWorks_ok : SpecOK Try.prog 3 sYardWorks := by
  refine spec_own (by kernel_rfl) T_ok (sget_cons work_ok (sget_cons refMay_ok (sget_cons power_ok (sget_cons refWork_ok (sget_cons awake_ok sget_nil))))) Try.func3 rfl rfl fun args hr nb out e => ?_
  unfold sYardWorks at e
  split at e
  · rename_i m en n d p sc
    injection e with e; subst e
    refine ⟨(fun _ h => nomatch h), true, [.agg [.int .i64 m, .int .i64 en, .int .i64 n, .int .i64 d], .int .i64 p, .int .i64 sc], rfl, fun hs => ⟨.cons _ _ _ _ (.same _ _ (flat_of _ rfl).has) (.cons _ _ _ _ (.same _ _ (flat_of _ rfl).has) (.cons _ _ _ _ (.same _ _ (flat_of _ rfl).has) .nil)), ?_⟩⟩
    have hlt : decide (sc < 0) = !decide (0 ≤ sc) := by by_cases h : sc < 0 <;> simp [h] <;> omega
    have hgt : decide (sc > 65536) = !decide (sc ≤ 65536) := by by_cases h : sc > 65536 <;> simp [h] <;> omega
    refine evC_go0 (dec := []) (ks := [(0, 1), (0, 2), (0, 3), (0, 6), (1, 0), (1, 1), (1, 2), (1, 3), (1, 4)]) (s' := ⟨[(0, 1, Cont.cell (AV.int IntKind.i64 p)), (0, 2, Cont.cell (AV.int IntKind.i64 sc)), (0, 3, Cont.cell (AV.ptr 1 0)), (0, 6, Cont.cell (AV.bool false)), (1, 0, Cont.cell (AV.int IntKind.i64 m)), (1, 1, Cont.cell (AV.int IntKind.i64 en)), (1, 2, Cont.cell (AV.int IntKind.i64 n)), (1, 3, Cont.cell (AV.int IntKind.i64 d)), (1, 4, Cont.top)], 17, 72⟩) (by kernel_rfl) (by kernel_rfl) ?_
    refine evC_go0 (dec := []) (ks := [(0, 1), (0, 2), (0, 3), (0, 6), (0, 7), (0, 8), (0, 9), (1, 0), (1, 1), (1, 2), (1, 3), (1, 4), (81, 0), (81, 1), (81, 2), (81, 3), (81, 4)]) (s' := ⟨[(0, 1, Cont.cell (AV.int IntKind.i64 p)), (0, 2, Cont.cell (AV.int IntKind.i64 sc)), (0, 3, Cont.cell (AV.ptr 1 0)), (0, 6, Cont.cell (AV.bool false)), (0, 7, Cont.cell (AV.ptr 81 0)), (0, 8, Cont.cell (AV.bool (bif wokF m en n d p sc then doneF n d p sc == n else false))), (0, 9, Cont.cell (AV.int IntKind.i64 (errF (wokF m en n d p sc)))), (1, 0, Cont.cell (AV.int IntKind.i64 m)), (1, 1, Cont.cell (AV.int IntKind.i64 en)), (1, 2, Cont.cell (AV.int IntKind.i64 n)), (1, 3, Cont.cell (AV.int IntKind.i64 d)), (1, 4, Cont.top), (81, 0, Cont.cell (AV.int IntKind.i64 (bif wokF m en n d p sc then m else 0))), (81, 1, Cont.cell (AV.int IntKind.i64 (bif wokF m en n d p sc then en else 0))), (81, 2, Cont.cell (AV.int IntKind.i64 (bif wokF m en n d p sc then n else 0))), (81, 3, Cont.cell (AV.int IntKind.i64 (bif wokF m en n d p sc then doneF n d p sc else 0))), (81, 4, Cont.top)], 113, 72⟩) (by kernel_rfl) (by kernel_rfl) ?_
    refine evC_seq ?_
    refine evC_go0 (dec := []) (ks := [(0, 1), (0, 2), (0, 3), (0, 6), (0, 7), (0, 8), (0, 9), (0, 33), (1, 0), (1, 1), (1, 2), (1, 3), (1, 4), (81, 0), (81, 1), (81, 2), (81, 3), (81, 4)]) (s' := ⟨[(0, 1, Cont.cell (AV.int IntKind.i64 p)), (0, 2, Cont.cell (AV.int IntKind.i64 sc)), (0, 3, Cont.cell (AV.ptr 1 0)), (0, 6, Cont.cell (AV.bool false)), (0, 7, Cont.cell (AV.ptr 81 0)), (0, 8, Cont.cell (AV.bool (bif wokF m en n d p sc then doneF n d p sc == n else false))), (0, 9, Cont.cell (AV.int IntKind.i64 (errF (wokF m en n d p sc)))), (0, 33, Cont.cell (AV.bool (bif bif bif !mayF m en n d then true else !inR 0 16320 p then true else decide (sc < 0) then true else decide (sc > 65536)))), (1, 0, Cont.cell (AV.int IntKind.i64 m)), (1, 1, Cont.cell (AV.int IntKind.i64 en)), (1, 2, Cont.cell (AV.int IntKind.i64 n)), (1, 3, Cont.cell (AV.int IntKind.i64 d)), (1, 4, Cont.top), (81, 0, Cont.cell (AV.int IntKind.i64 (bif wokF m en n d p sc then m else 0))), (81, 1, Cont.cell (AV.int IntKind.i64 (bif wokF m en n d p sc then en else 0))), (81, 2, Cont.cell (AV.int IntKind.i64 (bif wokF m en n d p sc then n else 0))), (81, 3, Cont.cell (AV.int IntKind.i64 (bif wokF m en n d p sc then doneF n d p sc else 0))), (81, 4, Cont.top)], 241, 72⟩) (by kernel_rfl) (by kernel_rfl) ?_
    refine evC_if (q := bif bif bif !mayF m en n d then true else !inR 0 16320 p then true else decide (sc < 0) then true else decide (sc > 65536)) (by kernel_rfl) (fun hc => ?_) (fun hc => ?_)
    · have h : wokF m en n d p sc = false := by
        simp only [wokF, okF]
        rw [hlt, hgt] at hc
        revert hc
        cases mayF m en n d <;> cases inR 0 16320 p <;> cases decide (0 ≤ sc) <;> cases decide (sc ≤ 65536) <;> simp
      refine evC_go0 (dec := []) (ks := [(0, 1), (0, 2), (0, 3), (0, 6), (0, 7), (0, 8), (0, 9), (1, 0), (1, 1), (1, 2), (1, 3), (1, 4), (81, 0), (81, 1), (81, 2), (81, 3), (81, 4)]) (s' := ⟨[(0, 1, Cont.cell (AV.int IntKind.i64 p)), (0, 2, Cont.cell (AV.int IntKind.i64 sc)), (0, 3, Cont.cell (AV.ptr 1 0)), (0, 6, Cont.cell (AV.bool (bif bif bif (bif wokF m en n d p sc then m else 0) == 0 && ((bif wokF m en n d p sc then en else 0) == 0 && ((bif wokF m en n d p sc then n else 0) == 0 && ((bif wokF m en n d p sc then doneF n d p sc else 0) == 0 && true))) then !bif wokF m en n d p sc then doneF n d p sc == n else false else false then errF (wokF m en n d p sc) == 1 else false then true else false))), (0, 7, Cont.cell (AV.ptr 81 0)), (0, 8, Cont.cell (AV.bool (bif wokF m en n d p sc then doneF n d p sc == n else false))), (0, 9, Cont.cell (AV.int IntKind.i64 (errF (wokF m en n d p sc)))), (1, 0, Cont.cell (AV.int IntKind.i64 m)), (1, 1, Cont.cell (AV.int IntKind.i64 en)), (1, 2, Cont.cell (AV.int IntKind.i64 n)), (1, 3, Cont.cell (AV.int IntKind.i64 d)), (1, 4, Cont.top), (81, 0, Cont.cell (AV.int IntKind.i64 (bif wokF m en n d p sc then m else 0))), (81, 1, Cont.cell (AV.int IntKind.i64 (bif wokF m en n d p sc then en else 0))), (81, 2, Cont.cell (AV.int IntKind.i64 (bif wokF m en n d p sc then n else 0))), (81, 3, Cont.cell (AV.int IntKind.i64 (bif wokF m en n d p sc then doneF n d p sc else 0))), (81, 4, Cont.top)], 361, 72⟩) (by kernel_rfl) (by kernel_rfl) ?_
      refine evC_ret ?_
      refine then_ret ?_
      refine post_ret ?_
      refine ends_flat (vs := [AV.bool (bif bif bif (bif wokF m en n d p sc then m else 0) == 0 && ((bif wokF m en n d p sc then en else 0) == 0 && ((bif wokF m en n d p sc then n else 0) == 0 && ((bif wokF m en n d p sc then doneF n d p sc else 0) == 0 && true))) then !bif wokF m en n d p sc then doneF n d p sc == n else false else false then errF (wokF m en n d p sc) == 1 else false then true else false)]) (Nat.zero_lt_succ _) (by kernel_rfl) (flat_of _ (by kernel_rfl)) rfl ?_
      simp only [h, errF, cond_false, oneAV]
      rfl
    · have h : wokF m en n d p sc = true := by
        simp only [wokF, okF]
        rw [hlt, hgt] at hc
        revert hc
        cases mayF m en n d <;> cases inR 0 16320 p <;> cases decide (0 ≤ sc) <;> cases decide (sc ≤ 65536) <;> simp
      refine evC_skip ?_
      refine then_normal ?_
      refine evC_go0 (dec := []) (ks := [(0, 3), (0, 6), (0, 7), (0, 8), (0, 9), (1, 0), (1, 1), (1, 2), (1, 3), (1, 4), (81, 0), (81, 1), (81, 2), (81, 3), (81, 4)]) (s' := ⟨[(0, 3, Cont.cell (AV.ptr 1 0)), (0, 6, Cont.cell (AV.bool false)), (0, 7, Cont.cell (AV.ptr 81 0)), (0, 8, Cont.cell (AV.bool (bif wokF m en n d p sc then doneF n d p sc == n else false))), (0, 9, Cont.cell (AV.int IntKind.i64 (errF (wokF m en n d p sc)))), (1, 0, Cont.cell (AV.int IntKind.i64 m)), (1, 1, Cont.cell (AV.int IntKind.i64 en)), (1, 2, Cont.cell (AV.int IntKind.i64 n)), (1, 3, Cont.cell (AV.int IntKind.i64 (refWorkF n d p sc))), (1, 4, Cont.top), (81, 0, Cont.cell (AV.int IntKind.i64 (bif wokF m en n d p sc then m else 0))), (81, 1, Cont.cell (AV.int IntKind.i64 (bif wokF m en n d p sc then en else 0))), (81, 2, Cont.cell (AV.int IntKind.i64 (bif wokF m en n d p sc then n else 0))), (81, 3, Cont.cell (AV.int IntKind.i64 (bif wokF m en n d p sc then doneF n d p sc else 0))), (81, 4, Cont.top)], 289, 72⟩) (by kernel_rfl) (by kernel_rfl) ?_
      refine evC_go0 (dec := []) (ks := [(0, 6)]) (s' := ⟨[(0, 6, Cont.cell (AV.bool (bif bif bif (bif wokF m en n d p sc then m else 0) == m && ((bif wokF m en n d p sc then en else 0) == en && ((bif wokF m en n d p sc then n else 0) == n && ((bif wokF m en n d p sc then doneF n d p sc else 0) == refWorkF n d p sc && true))) then (bif wokF m en n d p sc then doneF n d p sc == n else false) == (refWorkF n d p sc == n) else false then errF (wokF m en n d p sc) == 0 else false then true else false)))], 449, 72⟩) (by kernel_rfl) (by kernel_rfl) ?_
      refine evC_ret ?_
      refine post_ret ?_
      refine ends_flat (vs := [AV.bool (bif bif bif (bif wokF m en n d p sc then m else 0) == m && ((bif wokF m en n d p sc then en else 0) == en && ((bif wokF m en n d p sc then n else 0) == n && ((bif wokF m en n d p sc then doneF n d p sc else 0) == refWorkF n d p sc && true))) then (bif wokF m en n d p sc then doneF n d p sc == n else false) == (refWorkF n d p sc == n) else false then errF (wokF m en n d p sc) == 0 else false then true else false)]) (Nat.zero_lt_succ _) (by kernel_rfl) (flat_of _ (by kernel_rfl)) rfl ?_
      simp only [h, errF, cond_true, oneAV]
      have hh := h
      simp [wokF, okF, mayF, inR] at hh
      have hp : 0 ≤ p * sc ∧ p * sc ≤ 16320 * 65536 := ⟨Int.mul_nonneg (by omega) (by omega), Int.mul_le_mul (by omega) (by omega) (by omega) (by omega)⟩
      have hw : IntKind.i64.wrap (p * sc) = p * sc := i64_in _ (by omega)
      have e1 : moreF p sc = p * sc / 65536 := by
        simp only [moreF, hw]
        rw [Int.fdiv_eq_ediv_of_nonneg _ (by decide)]
        rfl
      have e2 : (p * sc).tdiv 65536 = p * sc / 65536 := Int.tdiv_eq_ediv_of_nonneg hp.1
      have e3 : IntKind.i64.wrap (p * sc / 65536) = p * sc / 65536 := i64_in _ (by omega)
      have e4 : doneF n d p sc = refWorkF n d p sc := by
        simp only [doneF, refWorkF, e1, hw, e2, e3, mn2, leastF]
        split <;> split <;> omega
      simp [e4]
  · cases e
end Go.Eng.S20
