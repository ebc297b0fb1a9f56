/- Seat 20: what a site takes, and the law YardTakes, walked: what each computes, for every argument that its contract names. -/
import Derived.Test.YtbknbkbimhjlnaaEngX
import Derived.Test.YtbknbkbimhjlnaaS20H
set_option linter.unusedSimpArgs false
set_option linter.unusedVariables false
namespace Go.Eng.S20
open Go.Proofs Go.IntWalk
set_option maxRecDepth 10000

theorem mayF_n {m en n d : Int} (h : mayF m en n d = true) : n ≠ 0 := by
  simp [mayF, inR] at h
  omega
def tkF (c n d : Int) (ok : Bool) : Int := bif ok then partF c d n else 0
def sTake : Spec := fun args _ _ => match args with
  | [.agg [.int .i64 m, .int .i64 en, .int .i64 n, .int .i64 d]] =>
    some ⟨[], .tup [.agg [.int .i64 (tkF m n d (mayF m en n d)), .int .i64 (tkF en n d (mayF m en n d))], .int .i64 (errF (mayF m en n d))], [], []⟩
  | _ => none
theorem take_ok : SpecOK Try.prog 15 sTake := by
  refine spec_own (by kernel_rfl) T_ok (sget_cons may_ok (sget_cons taken_ok sget_nil)) Try.func15 rfl rfl fun args hr nb out e => ?_
  unfold sTake at e
  split at e
  · rename_i m en n d
    injection e with e; subst e
    refine ⟨(fun _ h => nomatch h), true, [.agg [.int .i64 m, .int .i64 en, .int .i64 n, .int .i64 d]], rfl, fun hs => ⟨.cons _ _ _ _ (.same _ _ (flat_of _ rfl).has) .nil, ?_⟩⟩
    refine evC_go0 (dec := []) (ks := [(0, 1), (0, 2), (0, 3), (1, 0), (1, 1), (1, 2), (1, 3), (1, 4), (9, 0), (9, 1), (9, 2)]) (s' := ⟨[(0, 1, Cont.cell (AV.ptr 1 0)), (0, 2, Cont.cell (AV.ptr 9 0)), (0, 3, Cont.cell (AV.int IntKind.i64 0)), (1, 0, Cont.cell (AV.int IntKind.i64 m)), (1, 1, Cont.cell (AV.int IntKind.i64 en)), (1, 2, Cont.cell (AV.int IntKind.i64 n)), (1, 3, Cont.cell (AV.int IntKind.i64 d)), (1, 4, Cont.top), (9, 0, Cont.cell (AV.int IntKind.i64 0)), (9, 1, Cont.cell (AV.int IntKind.i64 0)), (9, 2, Cont.top)], 25, 12⟩) (by kernel_rfl) (by kernel_rfl) ?_
    refine evC_seq ?_
    refine evC_go0 (dec := []) (ks := [(0, 1), (0, 2), (0, 3), (0, 6), (1, 0), (1, 1), (1, 2), (1, 3), (1, 4), (9, 0), (9, 1), (9, 2)]) (s' := ⟨[(0, 1, Cont.cell (AV.ptr 1 0)), (0, 2, Cont.cell (AV.ptr 9 0)), (0, 3, Cont.cell (AV.int IntKind.i64 0)), (0, 6, Cont.cell (AV.bool !mayF m en n d)), (1, 0, Cont.cell (AV.int IntKind.i64 m)), (1, 1, Cont.cell (AV.int IntKind.i64 en)), (1, 2, Cont.cell (AV.int IntKind.i64 n)), (1, 3, Cont.cell (AV.int IntKind.i64 d)), (1, 4, Cont.top), (9, 0, Cont.cell (AV.int IntKind.i64 0)), (9, 1, Cont.cell (AV.int IntKind.i64 0)), (9, 2, Cont.top)], 49, 12⟩) (by kernel_rfl) (by kernel_rfl) ?_
    refine evC_if (q := !mayF m en n d) (by kernel_rfl) (fun hc => ?_) (fun hc => ?_)
    · have h : mayF m en n d = false := by simpa using hc
      refine evC_go0 (dec := []) (ks := [(0, 1), (0, 2), (0, 3), (1, 0), (1, 1), (1, 2), (1, 3), (1, 4), (9, 0), (9, 1), (9, 2)]) (s' := ⟨[(0, 1, Cont.cell (AV.ptr 1 0)), (0, 2, Cont.cell (AV.ptr 9 0)), (0, 3, Cont.cell (AV.int IntKind.i64 1)), (1, 0, Cont.cell (AV.int IntKind.i64 m)), (1, 1, Cont.cell (AV.int IntKind.i64 en)), (1, 2, Cont.cell (AV.int IntKind.i64 n)), (1, 3, Cont.cell (AV.int IntKind.i64 d)), (1, 4, Cont.top), (9, 0, Cont.cell (AV.int IntKind.i64 0)), (9, 1, Cont.cell (AV.int IntKind.i64 0)), (9, 2, Cont.top)], 73, 12⟩) (by kernel_rfl) (by kernel_rfl) ?_
      refine evC_ret ?_
      refine then_ret ?_
      refine post_ret ?_
      refine ends_flat (vs := [AV.agg [AV.int IntKind.i64 0, AV.int IntKind.i64 0], AV.int IntKind.i64 1]) (Nat.zero_lt_succ _) (by kernel_rfl) (flat_of _ (by kernel_rfl)) rfl ?_
      simp only [h, tkF, errF, cond_false]
      rfl
    · have h : mayF m en n d = true := by simpa using hc
      have hn := mayF_n h
      refine evC_skip ?_
      refine then_normal ?_
      refine evC_go (dec := []) (ks := [(0, 2), (0, 3), (9, 0), (9, 1), (9, 2)]) (ps := [n ≠ (0 : Int)]) (s' := ⟨[(0, 2, Cont.cell (AV.ptr 9 0)), (0, 3, Cont.cell (AV.int IntKind.i64 0)), (9, 0, Cont.cell (AV.int IntKind.i64 (partF m d n))), (9, 1, Cont.cell (AV.int IntKind.i64 (partF en d n))), (9, 2, Cont.top)], 97, 12⟩) (by kernel_rfl) (by kernel_rfl) ?_ ?_
      · exact hn
      refine evC_ret ?_
      refine post_ret ?_
      refine ends_flat (vs := [AV.agg [AV.int IntKind.i64 (partF m d n), AV.int IntKind.i64 (partF en d n)], AV.int IntKind.i64 0]) (Nat.zero_lt_succ _) (by kernel_rfl) (flat_of _ (by kernel_rfl)) rfl ?_
      simp only [h, tkF, errF, cond_true]
      rfl
  · cases e

def sPart : Spec := fun args _ _ => match args with
  | [.int .i64 c, .int .i64 d, .int .i64 n] => some ⟨[n ≠ 0], .int .i64 (partF c d n), [], []⟩
  | _ => none
theorem part_ok : SpecOK Try.prog 29 sPart := by
  refine spec_own (by kernel_rfl) T_ok sget_nil Try.func29 rfl rfl fun args hr nb out e => ?_
  unfold sPart at e
  split at e
  · rename_i c d n
    injection e with e; subst e
    refine ⟨(fun _ h => nomatch h), true, [.int .i64 c, .int .i64 d, .int .i64 n], rfl, fun hs => ⟨.cons _ _ _ _ (.same _ _ (flat_of _ rfl).has) (.cons _ _ _ _ (.same _ _ (flat_of _ rfl).has) (.cons _ _ _ _ (.same _ _ (flat_of _ rfl).has) .nil)), ?_⟩⟩
    have hn := hs _ List.mem_cons_self
    refine evC_go0 (dec := []) (ks := [(0, 0), (0, 1), (0, 2), (0, 6)]) (s' := ⟨[(0, 0, Cont.cell (AV.int IntKind.i64 c)), (0, 1, Cont.cell (AV.int IntKind.i64 d)), (0, 2, Cont.cell (AV.int IntKind.i64 n)), (0, 6, Cont.cell (AV.int IntKind.i64 0))], 9, 12⟩) (by kernel_rfl) (by kernel_rfl) ?_
    refine evC_go (dec := []) (ks := [(0, 6)]) (ps := [n ≠ (0 : Int)]) (s' := ⟨[(0, 6, Cont.cell (AV.int IntKind.i64 (IntKind.i64.wrap (Int.tdiv (IntKind.i64.wrap (c * d)) n))))], 57, 12⟩) (by kernel_rfl) (by kernel_rfl) ?_ ?_
    · exact hn
    refine evC_ret ?_
    refine post_ret ?_
    refine ends_flat (vs := [AV.int IntKind.i64 (IntKind.i64.wrap (Int.tdiv (IntKind.i64.wrap (c * d)) n))]) (Nat.zero_lt_succ _) (by kernel_rfl) (flat_of _ (by kernel_rfl)) rfl ?_
    rfl
  · cases e
theorem refTaken_ok : SpecOK Try.prog 18 sTaken := by
  refine spec_own (by kernel_rfl) T_ok (sget_cons part_ok sget_nil) Try.func18 rfl rfl fun args hr nb out e => ?_
  unfold sTaken at e
  split at e
  · rename_i m en n d0 d
    injection e with e; subst e
    refine ⟨(fun _ h => nomatch h), true, [.agg [.int .i64 m, .int .i64 en, .int .i64 n, .int .i64 d0], .int .i64 d], rfl, fun hs => ⟨.cons _ _ _ _ (.same _ _ (flat_of _ rfl).has) (.cons _ _ _ _ (.same _ _ (flat_of _ rfl).has) .nil), ?_⟩⟩
    have hn := hs _ List.mem_cons_self
    refine evC_go0 (dec := []) (ks := [(0, 1), (0, 2), (0, 4), (1, 0), (1, 1), (1, 2), (1, 3), (1, 4), (9, 0), (9, 1), (9, 2)]) (s' := ⟨[(0, 1, Cont.cell (AV.int IntKind.i64 d)), (0, 2, Cont.cell (AV.ptr 1 0)), (0, 4, Cont.cell (AV.ptr 9 0)), (1, 0, Cont.cell (AV.int IntKind.i64 m)), (1, 1, Cont.cell (AV.int IntKind.i64 en)), (1, 2, Cont.cell (AV.int IntKind.i64 n)), (1, 3, Cont.cell (AV.int IntKind.i64 d0)), (1, 4, Cont.top), (9, 0, Cont.cell (AV.int IntKind.i64 0)), (9, 1, Cont.cell (AV.int IntKind.i64 0)), (9, 2, Cont.top)], 17, 18⟩) (by kernel_rfl) (by kernel_rfl) ?_
    refine evC_go (dec := []) (ks := [(0, 4), (9, 0), (9, 1), (9, 2)]) (ps := [n ≠ (0 : Int), n ≠ (0 : Int)]) (s' := ⟨[(0, 4, Cont.cell (AV.ptr 9 0)), (9, 0, Cont.cell (AV.int IntKind.i64 (partF m d n))), (9, 1, Cont.cell (AV.int IntKind.i64 (partF en d n))), (9, 2, Cont.top)], 129, 18⟩) (by kernel_rfl) (by kernel_rfl) ?_ ?_
    · exact ⟨hn, hn⟩
    refine evC_ret ?_
    refine post_ret ?_
    refine ends_flat (vs := [AV.agg [AV.int IntKind.i64 (partF m d n), AV.int IntKind.i64 (partF en d n)]]) (Nat.zero_lt_succ _) (by kernel_rfl) (flat_of _ (by kernel_rfl)) rfl ?_
    rfl
  · cases e

def rNextF (c n d p : Int) : Int := IntKind.i64.wrap (partF c (leastF n (IntKind.i64.wrap (d + p))) n - partF c d n)
def sRefNext : Spec := fun args _ _ => match args with
  | [.agg [.int .i64 m, .int .i64 en, .int .i64 n, .int .i64 d], .int .i64 p] => some ⟨[n ≠ 0], .agg [.int .i64 (rNextF m n d p), .int .i64 (rNextF en n d p)], [], []⟩
  | _ => none
theorem refNext_ok : SpecOK Try.prog 19 sRefNext := by
  refine spec_own (by kernel_rfl) T_ok (sget_cons refTaken_ok (sget_cons least_ok sget_nil)) Try.func19 rfl rfl fun args hr nb out e => ?_
  unfold sRefNext at e
  split at e
  · rename_i m en n d p
    injection e with e; subst e
    refine ⟨(fun _ h => nomatch h), true, [.agg [.int .i64 m, .int .i64 en, .int .i64 n, .int .i64 d], .int .i64 p], rfl, fun hs => ⟨.cons _ _ _ _ (.same _ _ (flat_of _ rfl).has) (.cons _ _ _ _ (.same _ _ (flat_of _ rfl).has) .nil), ?_⟩⟩
    have hn := hs _ List.mem_cons_self
    refine evC_go0 (dec := []) (ks := [(0, 1), (0, 2), (0, 4), (1, 0), (1, 1), (1, 2), (1, 3), (1, 4), (9, 0), (9, 1), (9, 2)]) (s' := ⟨[(0, 1, Cont.cell (AV.int IntKind.i64 p)), (0, 2, Cont.cell (AV.ptr 1 0)), (0, 4, Cont.cell (AV.ptr 9 0)), (1, 0, Cont.cell (AV.int IntKind.i64 m)), (1, 1, Cont.cell (AV.int IntKind.i64 en)), (1, 2, Cont.cell (AV.int IntKind.i64 n)), (1, 3, Cont.cell (AV.int IntKind.i64 d)), (1, 4, Cont.top), (9, 0, Cont.cell (AV.int IntKind.i64 0)), (9, 1, Cont.cell (AV.int IntKind.i64 0)), (9, 2, Cont.top)], 17, 31⟩) (by kernel_rfl) (by kernel_rfl) ?_
    refine evC_go (dec := []) (ks := [(0, 4), (0, 5), (0, 6), (9, 0), (9, 1), (9, 2), (121, 0), (121, 1), (121, 2), (129, 0), (129, 1), (129, 2)]) (ps := [n ≠ (0 : Int), n ≠ (0 : Int)]) (s' := ⟨[(0, 4, Cont.cell (AV.ptr 9 0)), (0, 5, Cont.cell (AV.ptr 121 0)), (0, 6, Cont.cell (AV.ptr 129 0)), (9, 0, Cont.cell (AV.int IntKind.i64 0)), (9, 1, Cont.cell (AV.int IntKind.i64 0)), (9, 2, Cont.top), (121, 0, Cont.cell (AV.int IntKind.i64 (partF m d n))), (121, 1, Cont.cell (AV.int IntKind.i64 (partF en d n))), (121, 2, Cont.top), (129, 0, Cont.cell (AV.int IntKind.i64 (partF m (leastF n (IntKind.i64.wrap (d + p))) n))), (129, 1, Cont.cell (AV.int IntKind.i64 (partF en (leastF n (IntKind.i64.wrap (d + p))) n))), (129, 2, Cont.top)], 153, 31⟩) (by kernel_rfl) (by kernel_rfl) ?_ ?_
    · exact ⟨hn, hn⟩
    refine evC_go0 (dec := []) (ks := [(0, 4), (9, 0), (9, 1), (9, 2)]) (s' := ⟨[(0, 4, Cont.cell (AV.ptr 9 0)), (9, 0, Cont.cell (AV.int IntKind.i64 (IntKind.i64.wrap (partF m (leastF n (IntKind.i64.wrap (d + p))) n - partF m d n)))), (9, 1, Cont.cell (AV.int IntKind.i64 (IntKind.i64.wrap (partF en (leastF n (IntKind.i64.wrap (d + p))) n - partF en d n)))), (9, 2, Cont.top)], 249, 31⟩) (by kernel_rfl) (by kernel_rfl) ?_
    refine evC_ret ?_
    refine post_ret ?_
    refine ends_flat (vs := [AV.agg [AV.int IntKind.i64 (IntKind.i64.wrap (partF m (leastF n (IntKind.i64.wrap (d + p))) n - partF m d n)), AV.int IntKind.i64 (IntKind.i64.wrap (partF en (leastF n (IntKind.i64.wrap (d + p))) n - partF en d n))]]) (Nat.zero_lt_succ _) (by kernel_rfl) (flat_of _ (by kernel_rfl)) rfl ?_
    rfl
  · cases e

theorem rNext_eq (c n d p : Int) : rNextF c n d p = nextF c n d p true := by
  have : leastF n (IntKind.i64.wrap (d + p)) = mn2 n (IntKind.i64.wrap (d + p)) := by unfold leastF mn2; split <;> split <;> omega
  simp only [rNextF, nextF, this, cond_true]

def sYardTakes : Spec := fun args _ _ => match args with
  | [.agg [.int .i64 m, .int .i64 en, .int .i64 n, .int .i64 d], .int .i64 p] => some ⟨[], .bool true, [], []⟩
  | _ => none
theorem yardTakes_ok : SpecOK Try.prog 5 sYardTakes := by
  refine spec_own (by kernel_rfl) T_ok (sget_cons take_ok (sget_cons next_ok (sget_cons may_ok (sget_cons refMay_ok (sget_cons power_ok (sget_cons refTaken_ok (sget_cons refNext_ok (sget_cons awake_ok sget_nil)))))))) Try.func5 rfl rfl fun args hr nb out e => ?_
  unfold sYardTakes at e
  split at e
  · rename_i m en n d p
    injection e with e; subst e
    refine ⟨(fun _ h => nomatch h), true, [.agg [.int .i64 m, .int .i64 en, .int .i64 n, .int .i64 d], .int .i64 p], rfl, fun hs => ⟨.cons _ _ _ _ (.same _ _ (flat_of _ rfl).has) (.cons _ _ _ _ (.same _ _ (flat_of _ rfl).has) .nil), ?_⟩⟩
    refine evC_go0 (dec := []) (ks := [(0, 1), (0, 2), (0, 4), (1, 0), (1, 1), (1, 2), (1, 3), (1, 4)]) (s' := ⟨[(0, 1, Cont.cell (AV.int IntKind.i64 p)), (0, 2, Cont.cell (AV.ptr 1 0)), (0, 4, Cont.cell (AV.bool false)), (1, 0, Cont.cell (AV.int IntKind.i64 m)), (1, 1, Cont.cell (AV.int IntKind.i64 en)), (1, 2, Cont.cell (AV.int IntKind.i64 n)), (1, 3, Cont.cell (AV.int IntKind.i64 d)), (1, 4, Cont.top)], 17, 82⟩) (by kernel_rfl) (by kernel_rfl) ?_
    refine evC_go0 (dec := []) (ks := [(0, 1), (0, 2), (0, 4), (0, 5), (0, 6), (1, 0), (1, 1), (1, 2), (1, 3), (1, 4), (57, 0), (57, 1), (57, 2)]) (s' := ⟨[(0, 1, Cont.cell (AV.int IntKind.i64 p)), (0, 2, Cont.cell (AV.ptr 1 0)), (0, 4, Cont.cell (AV.bool false)), (0, 5, Cont.cell (AV.ptr 57 0)), (0, 6, Cont.cell (AV.int IntKind.i64 (errF (mayF m en n d)))), (1, 0, Cont.cell (AV.int IntKind.i64 m)), (1, 1, Cont.cell (AV.int IntKind.i64 en)), (1, 2, Cont.cell (AV.int IntKind.i64 n)), (1, 3, Cont.cell (AV.int IntKind.i64 d)), (1, 4, Cont.top), (57, 0, Cont.cell (AV.int IntKind.i64 (tkF m n d (mayF m en n d)))), (57, 1, Cont.cell (AV.int IntKind.i64 (tkF en n d (mayF m en n d)))), (57, 2, Cont.top)], 81, 82⟩) (by kernel_rfl) (by kernel_rfl) ?_
    refine evC_go0 (dec := []) (ks := [(0, 1), (0, 2), (0, 4), (0, 5), (0, 6), (0, 7), (0, 8), (1, 0), (1, 1), (1, 2), (1, 3), (1, 4), (57, 0), (57, 1), (57, 2), (129, 0), (129, 1), (129, 2)]) (s' := ⟨[(0, 1, Cont.cell (AV.int IntKind.i64 p)), (0, 2, Cont.cell (AV.ptr 1 0)), (0, 4, Cont.cell (AV.bool false)), (0, 5, Cont.cell (AV.ptr 57 0)), (0, 6, Cont.cell (AV.int IntKind.i64 (errF (mayF m en n d)))), (0, 7, Cont.cell (AV.ptr 129 0)), (0, 8, Cont.cell (AV.int IntKind.i64 (errF (okF m en n d p)))), (1, 0, Cont.cell (AV.int IntKind.i64 m)), (1, 1, Cont.cell (AV.int IntKind.i64 en)), (1, 2, Cont.cell (AV.int IntKind.i64 n)), (1, 3, Cont.cell (AV.int IntKind.i64 d)), (1, 4, Cont.top), (57, 0, Cont.cell (AV.int IntKind.i64 (tkF m n d (mayF m en n d)))), (57, 1, Cont.cell (AV.int IntKind.i64 (tkF en n d (mayF m en n d)))), (57, 2, Cont.top), (129, 0, Cont.cell (AV.int IntKind.i64 (nextF m n d p (okF m en n d p)))), (129, 1, Cont.cell (AV.int IntKind.i64 (nextF en n d p (okF m en n d p)))), (129, 2, Cont.top)], 153, 82⟩) (by kernel_rfl) (by kernel_rfl) ?_
    refine evC_seq ?_
    refine evC_go0 (dec := []) (ks := [(0, 1), (0, 2), (0, 4), (0, 5), (0, 6), (0, 7), (0, 8), (0, 24), (1, 0), (1, 1), (1, 2), (1, 3), (1, 4), (57, 0), (57, 1), (57, 2), (129, 0), (129, 1), (129, 2)]) (s' := ⟨[(0, 1, Cont.cell (AV.int IntKind.i64 p)), (0, 2, Cont.cell (AV.ptr 1 0)), (0, 4, Cont.cell (AV.bool false)), (0, 5, Cont.cell (AV.ptr 57 0)), (0, 6, Cont.cell (AV.int IntKind.i64 (errF (mayF m en n d)))), (0, 7, Cont.cell (AV.ptr 129 0)), (0, 8, Cont.cell (AV.int IntKind.i64 (errF (okF m en n d p)))), (0, 24, Cont.cell (AV.bool !mayF m en n d == mayF m en n d)), (1, 0, Cont.cell (AV.int IntKind.i64 m)), (1, 1, Cont.cell (AV.int IntKind.i64 en)), (1, 2, Cont.cell (AV.int IntKind.i64 n)), (1, 3, Cont.cell (AV.int IntKind.i64 d)), (1, 4, Cont.top), (57, 0, Cont.cell (AV.int IntKind.i64 (tkF m n d (mayF m en n d)))), (57, 1, Cont.cell (AV.int IntKind.i64 (tkF en n d (mayF m en n d)))), (57, 2, Cont.top), (129, 0, Cont.cell (AV.int IntKind.i64 (nextF m n d p (okF m en n d p)))), (129, 1, Cont.cell (AV.int IntKind.i64 (nextF en n d p (okF m en n d p)))), (129, 2, Cont.top)], 193, 82⟩) (by kernel_rfl) (by kernel_rfl) ?_
    refine evC_if (q := !mayF m en n d == mayF m en n d) (by kernel_rfl) (fun hc => ?_) (fun hc => ?_)
    · simp at hc
    · clear hc
      refine evC_skip ?_
      refine then_normal ?_
      refine evC_seq ?_
      refine evC_go0 (dec := []) (ks := [(0, 1), (0, 2), (0, 4), (0, 5), (0, 6), (0, 7), (0, 8), (0, 27), (1, 0), (1, 1), (1, 2), (1, 3), (1, 4), (57, 0), (57, 1), (57, 2), (129, 0), (129, 1), (129, 2)]) (s' := ⟨[(0, 1, Cont.cell (AV.int IntKind.i64 p)), (0, 2, Cont.cell (AV.ptr 1 0)), (0, 4, Cont.cell (AV.bool false)), (0, 5, Cont.cell (AV.ptr 57 0)), (0, 6, Cont.cell (AV.int IntKind.i64 (errF (mayF m en n d)))), (0, 7, Cont.cell (AV.ptr 129 0)), (0, 8, Cont.cell (AV.int IntKind.i64 (errF (okF m en n d p)))), (0, 27, Cont.cell (AV.bool !mayF m en n d)), (1, 0, Cont.cell (AV.int IntKind.i64 m)), (1, 1, Cont.cell (AV.int IntKind.i64 en)), (1, 2, Cont.cell (AV.int IntKind.i64 n)), (1, 3, Cont.cell (AV.int IntKind.i64 d)), (1, 4, Cont.top), (57, 0, Cont.cell (AV.int IntKind.i64 (tkF m n d (mayF m en n d)))), (57, 1, Cont.cell (AV.int IntKind.i64 (tkF en n d (mayF m en n d)))), (57, 2, Cont.top), (129, 0, Cont.cell (AV.int IntKind.i64 (nextF m n d p (okF m en n d p)))), (129, 1, Cont.cell (AV.int IntKind.i64 (nextF en n d p (okF m en n d p)))), (129, 2, Cont.top)], 217, 82⟩) (by kernel_rfl) (by kernel_rfl) ?_
      refine evC_if (q := !mayF m en n d) (by kernel_rfl) (fun hc => ?_) (fun hc => ?_)
      · have h : mayF m en n d = false := by simpa using hc
        have h2 : okF m en n d p = false := by simp [okF, h]
        refine evC_go0 (dec := []) (ks := [(0, 1), (0, 2), (0, 4), (0, 5), (0, 6), (0, 7), (0, 8), (1, 0), (1, 1), (1, 2), (1, 3), (1, 4), (57, 0), (57, 1), (57, 2), (129, 0), (129, 1), (129, 2)]) (s' := ⟨[(0, 1, Cont.cell (AV.int IntKind.i64 p)), (0, 2, Cont.cell (AV.ptr 1 0)), (0, 4, Cont.cell (AV.bool (bif bif bif bif tkF m n d (mayF m en n d) == 0 && (tkF en n d (mayF m en n d) == 0 && true) then nextF m n d p (okF m en n d p) == 0 && (nextF en n d p (okF m en n d p) == 0 && true) else false then errF (mayF m en n d) == 1 else false then errF (okF m en n d p) == 1 else false then true else false))), (0, 5, Cont.cell (AV.ptr 57 0)), (0, 6, Cont.cell (AV.int IntKind.i64 (errF (mayF m en n d)))), (0, 7, Cont.cell (AV.ptr 129 0)), (0, 8, Cont.cell (AV.int IntKind.i64 (errF (okF m en n d p)))), (1, 0, Cont.cell (AV.int IntKind.i64 m)), (1, 1, Cont.cell (AV.int IntKind.i64 en)), (1, 2, Cont.cell (AV.int IntKind.i64 n)), (1, 3, Cont.cell (AV.int IntKind.i64 d)), (1, 4, Cont.top), (57, 0, Cont.cell (AV.int IntKind.i64 (tkF m n d (mayF m en n d)))), (57, 1, Cont.cell (AV.int IntKind.i64 (tkF en n d (mayF m en n d)))), (57, 2, Cont.top), (129, 0, Cont.cell (AV.int IntKind.i64 (nextF m n d p (okF m en n d p)))), (129, 1, Cont.cell (AV.int IntKind.i64 (nextF en n d p (okF m en n d p)))), (129, 2, Cont.top)], 377, 82⟩) (by kernel_rfl) (by kernel_rfl) ?_
        refine evC_ret ?_
        refine then_ret ?_
        refine post_ret ?_
        refine ends_flat (vs := [AV.bool (bif bif bif bif tkF m n d (mayF m en n d) == 0 && (tkF en n d (mayF m en n d) == 0 && true) then nextF m n d p (okF m en n d p) == 0 && (nextF en n d p (okF m en n d p) == 0 && true) else false then errF (mayF m en n d) == 1 else false then errF (okF m en n d p) == 1 else false then true else false)]) (Nat.zero_lt_succ _) (by kernel_rfl) (flat_of _ (by kernel_rfl)) rfl ?_
        simp only [h, h2, tkF, nextF, errF, cond_false, oneAV]
        rfl
      · have h : mayF m en n d = true := by simpa using hc
        have hn := mayF_n h
        clear hc
        refine evC_skip ?_
        refine then_normal ?_
        refine evC_seq ?_
        refine evC_go (dec := []) (ks := [(0, 1), (0, 2), (0, 4), (0, 7), (0, 8), (0, 56), (1, 0), (1, 1), (1, 2), (1, 3), (1, 4), (129, 0), (129, 1), (129, 2)]) (ps := [n ≠ (0 : Int)]) (s' := ⟨[(0, 1, Cont.cell (AV.int IntKind.i64 p)), (0, 2, Cont.cell (AV.ptr 1 0)), (0, 4, Cont.cell (AV.bool false)), (0, 7, Cont.cell (AV.ptr 129 0)), (0, 8, Cont.cell (AV.int IntKind.i64 (errF (okF m en n d p)))), (0, 56, Cont.cell (AV.bool (bif !(tkF m n d (mayF m en n d) == partF m d n && (tkF en n d (mayF m en n d) == partF en d n && true)) then true else errF (mayF m en n d) != 0))), (1, 0, Cont.cell (AV.int IntKind.i64 m)), (1, 1, Cont.cell (AV.int IntKind.i64 en)), (1, 2, Cont.cell (AV.int IntKind.i64 n)), (1, 3, Cont.cell (AV.int IntKind.i64 d)), (1, 4, Cont.top), (129, 0, Cont.cell (AV.int IntKind.i64 (nextF m n d p (okF m en n d p)))), (129, 1, Cont.cell (AV.int IntKind.i64 (nextF en n d p (okF m en n d p)))), (129, 2, Cont.top)], 297, 82⟩) (by kernel_rfl) (by kernel_rfl) ?_ ?_
        · exact hn
        refine evC_if (q := bif !(tkF m n d (mayF m en n d) == partF m d n && (tkF en n d (mayF m en n d) == partF en d n && true)) then true else errF (mayF m en n d) != 0) (by kernel_rfl) (fun hc => ?_) (fun hc => ?_)
        · simp [h, tkF, errF] at hc
        · clear hc
          refine evC_skip ?_
          refine then_normal ?_
          refine evC_seq ?_
          refine evC_go0 (dec := []) (ks := [(0, 1), (0, 2), (0, 4), (0, 7), (0, 8), (0, 59), (1, 0), (1, 1), (1, 2), (1, 3), (1, 4), (129, 0), (129, 1), (129, 2)]) (s' := ⟨[(0, 1, Cont.cell (AV.int IntKind.i64 p)), (0, 2, Cont.cell (AV.ptr 1 0)), (0, 4, Cont.cell (AV.bool false)), (0, 7, Cont.cell (AV.ptr 129 0)), (0, 8, Cont.cell (AV.int IntKind.i64 (errF (okF m en n d p)))), (0, 59, Cont.cell (AV.bool !inR 0 16320 p)), (1, 0, Cont.cell (AV.int IntKind.i64 m)), (1, 1, Cont.cell (AV.int IntKind.i64 en)), (1, 2, Cont.cell (AV.int IntKind.i64 n)), (1, 3, Cont.cell (AV.int IntKind.i64 d)), (1, 4, Cont.top), (129, 0, Cont.cell (AV.int IntKind.i64 (nextF m n d p (okF m en n d p)))), (129, 1, Cont.cell (AV.int IntKind.i64 (nextF en n d p (okF m en n d p)))), (129, 2, Cont.top)], 321, 82⟩) (by kernel_rfl) (by kernel_rfl) ?_
          refine evC_if (q := !inR 0 16320 p) (by kernel_rfl) (fun hc => ?_) (fun hc => ?_)
          · have h3 : inR 0 16320 p = false := by simpa using hc
            have h2 : okF m en n d p = false := by simp [okF, h, h3]
            refine evC_go0 (dec := []) (ks := [(0, 1), (0, 2), (0, 4), (0, 7), (0, 8), (1, 0), (1, 1), (1, 2), (1, 3), (1, 4), (129, 0), (129, 1), (129, 2)]) (s' := ⟨[(0, 1, Cont.cell (AV.int IntKind.i64 p)), (0, 2, Cont.cell (AV.ptr 1 0)), (0, 4, Cont.cell (AV.bool (bif bif nextF m n d p (okF m en n d p) == 0 && (nextF en n d p (okF m en n d p) == 0 && true) then errF (okF m en n d p) == 1 else false then true else false))), (0, 7, Cont.cell (AV.ptr 129 0)), (0, 8, Cont.cell (AV.int IntKind.i64 (errF (okF m en n d p)))), (1, 0, Cont.cell (AV.int IntKind.i64 m)), (1, 1, Cont.cell (AV.int IntKind.i64 en)), (1, 2, Cont.cell (AV.int IntKind.i64 n)), (1, 3, Cont.cell (AV.int IntKind.i64 d)), (1, 4, Cont.top), (129, 0, Cont.cell (AV.int IntKind.i64 (nextF m n d p (okF m en n d p)))), (129, 1, Cont.cell (AV.int IntKind.i64 (nextF en n d p (okF m en n d p)))), (129, 2, Cont.top)], 409, 82⟩) (by kernel_rfl) (by kernel_rfl) ?_
            refine evC_ret ?_
            refine then_ret ?_
            refine post_ret ?_
            refine ends_flat (vs := [AV.bool (bif bif nextF m n d p (okF m en n d p) == 0 && (nextF en n d p (okF m en n d p) == 0 && true) then errF (okF m en n d p) == 1 else false then true else false)]) (Nat.zero_lt_succ _) (by kernel_rfl) (flat_of _ (by kernel_rfl)) rfl ?_
            simp only [h, h2, tkF, nextF, errF, cond_false, cond_true, oneAV]
            rfl
          · have h3 : inR 0 16320 p = true := by simpa using hc
            have h2 : okF m en n d p = true := by simp [okF, h, h3]
            refine evC_skip ?_
            refine then_normal ?_
            refine evC_go (dec := []) (ks := [(0, 4)]) (ps := [n ≠ (0 : Int)]) (s' := ⟨[(0, 4, Cont.cell (AV.bool (bif bif nextF m n d p (okF m en n d p) == rNextF m n d p && (nextF en n d p (okF m en n d p) == rNextF en n d p && true) then errF (okF m en n d p) == 0 else false then true else false)))], 425, 82⟩) (by kernel_rfl) (by kernel_rfl) ?_ ?_
            · exact hn
            refine evC_ret ?_
            refine post_ret ?_
            refine ends_flat (vs := [AV.bool (bif bif nextF m n d p (okF m en n d p) == rNextF m n d p && (nextF en n d p (okF m en n d p) == rNextF en n d p && true) then errF (okF m en n d p) == 0 else false then true else false)]) (Nat.zero_lt_succ _) (by kernel_rfl) (flat_of _ (by kernel_rfl)) rfl ?_
            simp [h, h2, rNext_eq, errF, oneAV]
  · cases e
end Go.Eng.S20
