/- Seat 20: the yard's 'Next' and 'Work', walked: what each computes, for every argument that its contract names. -/
import Derived.Test.YtbknbkbimhjlnaaEngX
import Derived.Test.YtbknbkbimhjlnaaS20C
set_option linter.unusedSimpArgs false
set_option linter.unusedVariables false
namespace Go.Eng.S20
open Go.Proofs Go.IntWalk
set_option maxRecDepth 10000

def okF (m en n d p : Int) : Bool := mayF m en n d && inR 0 16320 p
theorem okF_n {m en n d p : Int} (h : okF m en n d p = true) : n ≠ 0 := by
  simp [okF, mayF, inR] at h
  omega
def nextF (c n d p : Int) (ok : Bool) : Int := bif ok then IntKind.i64.wrap (partF c (mn2 n (IntKind.i64.wrap (d + p))) n - partF c d n) else 0
def errF (ok : Bool) : Int := bif ok then 0 else 1
def sNext : Spec := fun args _ _ => match args with
  | [.agg [.int .i64 m, .int .i64 en, .int .i64 n, .int .i64 d], .int .i64 p] =>
    some ⟨[], .tup [.agg [.int .i64 (nextF m n d p (okF m en n d p)), .int .i64 (nextF en n d p (okF m en n d p))], .int .i64 (errF (okF m en n d p))], [], []⟩
  | _ => none
theorem next_ok : SpecOK Try.prog 16 sNext := by
  refine spec_own (by kernel_rfl) T_ok (sget_cons may_ok (sget_cons strong_ok (sget_cons taken_ok sget_nil))) Try.func16 rfl rfl fun args hr nb out e => ?_
  unfold sNext at e
  split at e
  · rename_i m en n d p
    injection e with e; subst e
    refine ⟨(fun _ h => nomatch h), true, [.agg [.int .i64 m, .int .i64 en, .int .i64 n, .int .i64 d], .int .i64 p], rfl, fun hs => ⟨.cons _ _ _ _ (.same _ _ (flat_of _ rfl).has) (.cons _ _ _ _ (.same _ _ (flat_of _ rfl).has) .nil), ?_⟩⟩
    refine evC_go0 (dec := []) (ks := [(0, 1), (0, 2), (0, 4), (0, 5), (1, 0), (1, 1), (1, 2), (1, 3), (1, 4), (9, 0), (9, 1), (9, 2)]) (s' := ⟨[(0, 1, Cont.cell (AV.int IntKind.i64 p)), (0, 2, Cont.cell (AV.ptr 1 0)), (0, 4, Cont.cell (AV.ptr 9 0)), (0, 5, Cont.cell (AV.int IntKind.i64 0)), (1, 0, Cont.cell (AV.int IntKind.i64 m)), (1, 1, Cont.cell (AV.int IntKind.i64 en)), (1, 2, Cont.cell (AV.int IntKind.i64 n)), (1, 3, Cont.cell (AV.int IntKind.i64 d)), (1, 4, Cont.top), (9, 0, Cont.cell (AV.int IntKind.i64 0)), (9, 1, Cont.cell (AV.int IntKind.i64 0)), (9, 2, Cont.top)], 25, 41⟩) (by kernel_rfl) (by kernel_rfl) ?_
    refine evC_seq ?_
    refine evC_go0 (dec := []) (ks := [(0, 1), (0, 2), (0, 4), (0, 5), (0, 15), (1, 0), (1, 1), (1, 2), (1, 3), (1, 4), (9, 0), (9, 1), (9, 2)]) (s' := ⟨[(0, 1, Cont.cell (AV.int IntKind.i64 p)), (0, 2, Cont.cell (AV.ptr 1 0)), (0, 4, Cont.cell (AV.ptr 9 0)), (0, 5, Cont.cell (AV.int IntKind.i64 0)), (0, 15, Cont.cell (AV.bool (bif !mayF m en n d then true else !inR 0 16320 p))), (1, 0, Cont.cell (AV.int IntKind.i64 m)), (1, 1, Cont.cell (AV.int IntKind.i64 en)), (1, 2, Cont.cell (AV.int IntKind.i64 n)), (1, 3, Cont.cell (AV.int IntKind.i64 d)), (1, 4, Cont.top), (9, 0, Cont.cell (AV.int IntKind.i64 0)), (9, 1, Cont.cell (AV.int IntKind.i64 0)), (9, 2, Cont.top)], 89, 41⟩) (by kernel_rfl) (by kernel_rfl) ?_
    refine evC_if (q := bif !mayF m en n d then true else !inR 0 16320 p) (by kernel_rfl) (fun hc => ?_) (fun hc => ?_)
    · refine evC_go0 (dec := []) (ks := [(0, 1), (0, 2), (0, 4), (0, 5), (1, 0), (1, 1), (1, 2), (1, 3), (1, 4), (9, 0), (9, 1), (9, 2)]) (s' := ⟨[(0, 1, Cont.cell (AV.int IntKind.i64 p)), (0, 2, Cont.cell (AV.ptr 1 0)), (0, 4, Cont.cell (AV.ptr 9 0)), (0, 5, Cont.cell (AV.int IntKind.i64 1)), (1, 0, Cont.cell (AV.int IntKind.i64 m)), (1, 1, Cont.cell (AV.int IntKind.i64 en)), (1, 2, Cont.cell (AV.int IntKind.i64 n)), (1, 3, Cont.cell (AV.int IntKind.i64 d)), (1, 4, Cont.top), (9, 0, Cont.cell (AV.int IntKind.i64 0)), (9, 1, Cont.cell (AV.int IntKind.i64 0)), (9, 2, Cont.top)], 113, 41⟩) (by kernel_rfl) (by kernel_rfl) ?_
      refine evC_ret ?_
      refine then_ret ?_
      refine post_ret ?_
      refine ends_flat (vs := [AV.agg [AV.int IntKind.i64 0, AV.int IntKind.i64 0], AV.int IntKind.i64 1]) (Nat.zero_lt_succ _) (by kernel_rfl) (flat_of _ (by kernel_rfl)) rfl ?_
      have h : okF m en n d p = false := by
        simp only [okF]
        revert hc
        cases mayF m en n d <;> cases inR 0 16320 p <;> simp
      simp only [h, nextF, errF, cond_false]
      rfl
    · have h : okF m en n d p = true := by
        simp only [okF]
        revert hc
        cases mayF m en n d <;> cases inR 0 16320 p <;> simp
      have hn := okF_n h
      refine evC_skip ?_
      refine then_normal ?_
      refine evC_go (dec := []) (ks := [(0, 4), (0, 5), (0, 6), (0, 7), (9, 0), (9, 1), (9, 2), (193, 0), (193, 1), (193, 2), (201, 0), (201, 1), (201, 2)]) (ps := [n ≠ (0 : Int), n ≠ (0 : Int)]) (s' := ⟨[(0, 4, Cont.cell (AV.ptr 9 0)), (0, 5, Cont.cell (AV.int IntKind.i64 0)), (0, 6, Cont.cell (AV.ptr 193 0)), (0, 7, Cont.cell (AV.ptr 201 0)), (9, 0, Cont.cell (AV.int IntKind.i64 0)), (9, 1, Cont.cell (AV.int IntKind.i64 0)), (9, 2, Cont.top), (193, 0, Cont.cell (AV.int IntKind.i64 (partF m d n))), (193, 1, Cont.cell (AV.int IntKind.i64 (partF en d n))), (193, 2, Cont.top), (201, 0, Cont.cell (AV.int IntKind.i64 (partF m (mn2 n (IntKind.i64.wrap (d + p))) n))), (201, 1, Cont.cell (AV.int IntKind.i64 (partF en (mn2 n (IntKind.i64.wrap (d + p))) n))), (201, 2, Cont.top)], 225, 41⟩) (by kernel_rfl) (by kernel_rfl) ?_ ?_
      · exact ⟨hn, hn⟩
      refine evC_go0 (dec := []) (ks := [(0, 4), (0, 5), (9, 0), (9, 1), (9, 2)]) (s' := ⟨[(0, 4, Cont.cell (AV.ptr 9 0)), (0, 5, Cont.cell (AV.int IntKind.i64 0)), (9, 0, Cont.cell (AV.int IntKind.i64 (IntKind.i64.wrap (partF m (mn2 n (IntKind.i64.wrap (d + p))) n - partF m d n)))), (9, 1, Cont.cell (AV.int IntKind.i64 (IntKind.i64.wrap (partF en (mn2 n (IntKind.i64.wrap (d + p))) n - partF en d n)))), (9, 2, Cont.top)], 329, 41⟩) (by kernel_rfl) (by kernel_rfl) ?_
      refine evC_ret ?_
      refine post_ret ?_
      refine ends_flat (vs := [AV.agg [AV.int IntKind.i64 (IntKind.i64.wrap (partF m (mn2 n (IntKind.i64.wrap (d + p))) n - partF m d n)), AV.int IntKind.i64 (IntKind.i64.wrap (partF en (mn2 n (IntKind.i64.wrap (d + p))) n - partF en d n))], AV.int IntKind.i64 0]) (Nat.zero_lt_succ _) (by kernel_rfl) (flat_of _ (by kernel_rfl)) rfl ?_
      simp only [h, nextF, errF, cond_true]
      rfl
  · cases e

def moreF (p sc : Int) : Int := (IntKind.i64.wrap (p * sc)).fdiv (2 ^ min (Int.toNat 16) IntKind.i64.bits)
def wokF (m en n d p sc : Int) : Bool := okF m en n d p && (decide (0 ≤ sc) && decide (sc ≤ 65536))
def doneF (n d p sc : Int) : Int := mn2 n (IntKind.i64.wrap (d + moreF p sc))
def sWork : Spec := fun args _ _ => match args with
  | [.agg [.int .i64 m, .int .i64 en, .int .i64 n, .int .i64 d], .int .i64 p, .int .i64 sc] =>
    some ⟨[], .tup [.agg [.int .i64 (bif wokF m en n d p sc then m else 0), .int .i64 (bif wokF m en n d p sc then en else 0), .int .i64 (bif wokF m en n d p sc then n else 0), .int .i64 (bif wokF m en n d p sc then doneF n d p sc else 0)],
      .bool (bif wokF m en n d p sc then doneF n d p sc == n else false), .int .i64 (errF (wokF m en n d p sc))], [], []⟩
  | _ => none
theorem work_ok : SpecOK Try.prog 8 sWork := by
  refine spec_own (by kernel_rfl) T_ok (sget_cons may_ok (sget_cons strong_ok sget_nil)) Try.func8 rfl rfl fun args hr nb out e => ?_
  unfold sWork at e
  split at e
  · rename_i m en n d p sc
    injection e with e; subst e
    refine ⟨(fun _ h => nomatch h), true, [.agg [.int .i64 m, .int .i64 en, .int .i64 n, .int .i64 d], .int .i64 p, .int .i64 sc], rfl, fun hs => ⟨.cons _ _ _ _ (.same _ _ (flat_of _ rfl).has) (.cons _ _ _ _ (.same _ _ (flat_of _ rfl).has) (.cons _ _ _ _ (.same _ _ (flat_of _ rfl).has) .nil)), ?_⟩⟩
    have hlt : decide (sc < 0) = !decide (0 ≤ sc) := by by_cases h : sc < 0 <;> simp [h] <;> omega
    have hgt : decide (sc > 65536) = !decide (sc ≤ 65536) := by by_cases h : sc > 65536 <;> simp [h] <;> omega
    refine evC_go0 (dec := []) (ks := [(0, 1), (0, 2), (0, 3), (0, 6), (0, 7), (0, 8), (1, 0), (1, 1), (1, 2), (1, 3), (1, 4), (9, 0), (9, 1), (9, 2), (9, 3), (9, 4)]) (s' := ⟨[(0, 1, Cont.cell (AV.int IntKind.i64 p)), (0, 2, Cont.cell (AV.int IntKind.i64 sc)), (0, 3, Cont.cell (AV.ptr 1 0)), (0, 6, Cont.cell (AV.ptr 9 0)), (0, 7, Cont.cell (AV.bool false)), (0, 8, Cont.cell (AV.int IntKind.i64 0)), (1, 0, Cont.cell (AV.int IntKind.i64 m)), (1, 1, Cont.cell (AV.int IntKind.i64 en)), (1, 2, Cont.cell (AV.int IntKind.i64 n)), (1, 3, Cont.cell (AV.int IntKind.i64 d)), (1, 4, Cont.top), (9, 0, Cont.cell (AV.int IntKind.i64 0)), (9, 1, Cont.cell (AV.int IntKind.i64 0)), (9, 2, Cont.cell (AV.int IntKind.i64 0)), (9, 3, Cont.cell (AV.int IntKind.i64 0)), (9, 4, Cont.top)], 33, 45⟩) (by kernel_rfl) (by kernel_rfl) ?_
    refine evC_seq ?_
    refine evC_go0 (dec := []) (ks := [(0, 1), (0, 2), (0, 3), (0, 6), (0, 7), (0, 8), (0, 25), (1, 0), (1, 1), (1, 2), (1, 3), (1, 4), (9, 0), (9, 1), (9, 2), (9, 3), (9, 4)]) (s' := ⟨[(0, 1, Cont.cell (AV.int IntKind.i64 p)), (0, 2, Cont.cell (AV.int IntKind.i64 sc)), (0, 3, Cont.cell (AV.ptr 1 0)), (0, 6, Cont.cell (AV.ptr 9 0)), (0, 7, Cont.cell (AV.bool false)), (0, 8, Cont.cell (AV.int IntKind.i64 0)), (0, 25, Cont.cell (AV.bool (bif bif bif !mayF m en n d then true else !inR 0 16320 p then true else decide (sc < 0) then true else decide (sc > 65536)))), (1, 0, Cont.cell (AV.int IntKind.i64 m)), (1, 1, Cont.cell (AV.int IntKind.i64 en)), (1, 2, Cont.cell (AV.int IntKind.i64 n)), (1, 3, Cont.cell (AV.int IntKind.i64 d)), (1, 4, Cont.top), (9, 0, Cont.cell (AV.int IntKind.i64 0)), (9, 1, Cont.cell (AV.int IntKind.i64 0)), (9, 2, Cont.cell (AV.int IntKind.i64 0)), (9, 3, Cont.cell (AV.int IntKind.i64 0)), (9, 4, Cont.top)], 161, 45⟩) (by kernel_rfl) (by kernel_rfl) ?_
    refine evC_if (q := bif bif bif !mayF m en n d then true else !inR 0 16320 p then true else decide (sc < 0) then true else decide (sc > 65536)) (by kernel_rfl) (fun hc => ?_) (fun hc => ?_)
    · refine evC_go0 (dec := []) (ks := [(0, 1), (0, 2), (0, 3), (0, 6), (0, 7), (0, 8), (1, 0), (1, 1), (1, 2), (1, 3), (1, 4), (9, 0), (9, 1), (9, 2), (9, 3), (9, 4)]) (s' := ⟨[(0, 1, Cont.cell (AV.int IntKind.i64 p)), (0, 2, Cont.cell (AV.int IntKind.i64 sc)), (0, 3, Cont.cell (AV.ptr 1 0)), (0, 6, Cont.cell (AV.ptr 9 0)), (0, 7, Cont.cell (AV.bool false)), (0, 8, Cont.cell (AV.int IntKind.i64 1)), (1, 0, Cont.cell (AV.int IntKind.i64 m)), (1, 1, Cont.cell (AV.int IntKind.i64 en)), (1, 2, Cont.cell (AV.int IntKind.i64 n)), (1, 3, Cont.cell (AV.int IntKind.i64 d)), (1, 4, Cont.top), (9, 0, Cont.cell (AV.int IntKind.i64 0)), (9, 1, Cont.cell (AV.int IntKind.i64 0)), (9, 2, Cont.cell (AV.int IntKind.i64 0)), (9, 3, Cont.cell (AV.int IntKind.i64 0)), (9, 4, Cont.top)], 193, 45⟩) (by kernel_rfl) (by kernel_rfl) ?_
      refine evC_ret ?_
      refine then_ret ?_
      refine post_ret ?_
      refine ends_flat (vs := [AV.agg [AV.int IntKind.i64 0, AV.int IntKind.i64 0, AV.int IntKind.i64 0, AV.int IntKind.i64 0], AV.bool false, AV.int IntKind.i64 1]) (Nat.zero_lt_succ _) (by kernel_rfl) (flat_of _ (by kernel_rfl)) rfl ?_
      have h : wokF m en n d p sc = false := by
        simp only [wokF, okF]
        rw [hlt, hgt] at hc
        revert hc
        cases mayF m en n d <;> cases inR 0 16320 p <;> cases decide (0 ≤ sc) <;> cases decide (sc ≤ 65536) <;> simp
      simp only [h, errF, cond_false]
      rfl
    · have h : wokF m en n d p sc = true := by
        simp only [wokF, okF]
        rw [hlt, hgt] at hc
        revert hc
        cases mayF m en n d <;> cases inR 0 16320 p <;> cases decide (0 ≤ sc) <;> cases decide (sc ≤ 65536) <;> simp
      refine evC_skip ?_
      refine then_normal ?_
      refine evC_go (dec := []) (ks := [(0, 3), (0, 6), (0, 7), (0, 8), (0, 9), (1, 0), (1, 1), (1, 2), (1, 3), (1, 4), (9, 0), (9, 1), (9, 2), (9, 3), (9, 4)]) (ps := [(0 : Int) ≤ (16 : Int)]) (s' := ⟨[(0, 3, Cont.cell (AV.ptr 1 0)), (0, 6, Cont.cell (AV.ptr 9 0)), (0, 7, Cont.cell (AV.bool false)), (0, 8, Cont.cell (AV.int IntKind.i64 0)), (0, 9, Cont.cell (AV.int IntKind.i64 (Int.fdiv (IntKind.i64.wrap (p * sc)) (2 ^ min (Int.toNat 16) (IntKind.bits IntKind.i64))))), (1, 0, Cont.cell (AV.int IntKind.i64 m)), (1, 1, Cont.cell (AV.int IntKind.i64 en)), (1, 2, Cont.cell (AV.int IntKind.i64 n)), (1, 3, Cont.cell (AV.int IntKind.i64 d)), (1, 4, Cont.top), (9, 0, Cont.cell (AV.int IntKind.i64 0)), (9, 1, Cont.cell (AV.int IntKind.i64 0)), (9, 2, Cont.cell (AV.int IntKind.i64 0)), (9, 3, Cont.cell (AV.int IntKind.i64 0)), (9, 4, Cont.top)], 201, 45⟩) (by kernel_rfl) (by kernel_rfl) ?_ ?_
      · simp [All]
      refine evC_go0 (dec := []) (ks := [(0, 3), (0, 6), (0, 7), (0, 8), (1, 0), (1, 1), (1, 2), (1, 3), (1, 4), (9, 0), (9, 1), (9, 2), (9, 3), (9, 4)]) (s' := ⟨[(0, 3, Cont.cell (AV.ptr 1 0)), (0, 6, Cont.cell (AV.ptr 9 0)), (0, 7, Cont.cell (AV.bool false)), (0, 8, Cont.cell (AV.int IntKind.i64 0)), (1, 0, Cont.cell (AV.int IntKind.i64 m)), (1, 1, Cont.cell (AV.int IntKind.i64 en)), (1, 2, Cont.cell (AV.int IntKind.i64 n)), (1, 3, Cont.cell (AV.int IntKind.i64 (mn2 n (IntKind.i64.wrap (d + Int.fdiv (IntKind.i64.wrap (p * sc)) (2 ^ min (Int.toNat 16) (IntKind.bits IntKind.i64))))))), (1, 4, Cont.top), (9, 0, Cont.cell (AV.int IntKind.i64 0)), (9, 1, Cont.cell (AV.int IntKind.i64 0)), (9, 2, Cont.cell (AV.int IntKind.i64 0)), (9, 3, Cont.cell (AV.int IntKind.i64 0)), (9, 4, Cont.top)], 273, 45⟩) (by kernel_rfl) (by kernel_rfl) ?_
      refine evC_go0 (dec := []) (ks := [(0, 6), (0, 7), (0, 8), (9, 0), (9, 1), (9, 2), (9, 3), (9, 4)]) (s' := ⟨[(0, 6, Cont.cell (AV.ptr 9 0)), (0, 7, Cont.cell (AV.bool (mn2 n (IntKind.i64.wrap (d + Int.fdiv (IntKind.i64.wrap (p * sc)) (2 ^ min (Int.toNat 16) (IntKind.bits IntKind.i64)))) == n))), (0, 8, Cont.cell (AV.int IntKind.i64 0)), (9, 0, Cont.cell (AV.int IntKind.i64 m)), (9, 1, Cont.cell (AV.int IntKind.i64 en)), (9, 2, Cont.cell (AV.int IntKind.i64 n)), (9, 3, Cont.cell (AV.int IntKind.i64 (mn2 n (IntKind.i64.wrap (d + Int.fdiv (IntKind.i64.wrap (p * sc)) (2 ^ min (Int.toNat 16) (IntKind.bits IntKind.i64))))))), (9, 4, Cont.top)], 345, 45⟩) (by kernel_rfl) (by kernel_rfl) ?_
      refine evC_ret ?_
      refine post_ret ?_
      refine ends_flat (vs := [AV.agg [AV.int IntKind.i64 m, AV.int IntKind.i64 en, AV.int IntKind.i64 n, AV.int IntKind.i64 (mn2 n (IntKind.i64.wrap (d + Int.fdiv (IntKind.i64.wrap (p * sc)) (2 ^ min (Int.toNat 16) (IntKind.bits IntKind.i64)))))], AV.bool (mn2 n (IntKind.i64.wrap (d + Int.fdiv (IntKind.i64.wrap (p * sc)) (2 ^ min (Int.toNat 16) (IntKind.bits IntKind.i64)))) == n), AV.int IntKind.i64 0]) (Nat.zero_lt_succ _) (by kernel_rfl) (flat_of _ (by kernel_rfl)) rfl ?_
      simp only [h, errF, cond_true]
      rfl
  · cases e
end Go.Eng.S20
