/- Seat top, stores: the purse's functions, walked. -/
import Derived.Test.YthfpdhhnokhldaaEngX
import Derived.Test.YthfpdhhnokhldaaS26B
set_option linter.unusedSimpArgs false
set_option linter.unusedVariables false
namespace Go.Eng.S26
open Go.Proofs Go.IntWalk
set_option maxRecDepth 10000

def sTo : Spec := fun args _ _ => match args with
  | [.int .i64 v, .int .i64 m] => some ⟨[], .bool (inR 0 m v), [], []⟩
  | _ => none
theorem to_ok : SpecOK Try.prog 30 sTo := by
  refine spec_own (by kernel_rfl) T_ok sget_nil Try.func30 rfl rfl fun args hr nb out e => ?_
  unfold sTo at e
  split at e
  · rename_i v m
    injection e with e; subst e
    refine ⟨(fun _ h => nomatch h), true, [.int .i64 v, .int .i64 m], rfl, fun hs => ⟨.cons _ _ _ _ (.same _ _ (.int _ _)) (.cons _ _ _ _ (.same _ _ (.int _ _)) .nil), ?_⟩⟩
    refine evC_go0 (dec := []) (ks := [(0, 0), (0, 1), (0, 4)]) (s' := ⟨[(0, 0, Cont.cell (AV.int IntKind.i64 v)), (0, 1, Cont.cell (AV.int IntKind.i64 m)), (0, 4, Cont.cell (AV.bool false))], 9, 12⟩) (by kernel_rfl) (by kernel_rfl) ?_
    refine evC_go0 (dec := []) (ks := [(0, 4)]) (s' := ⟨[(0, 4, Cont.cell (AV.bool (bif decide (v ≥ 0) then decide (v ≤ m) else false)))], 73, 12⟩) (by kernel_rfl) (by kernel_rfl) ?_
    refine evC_ret ?_
    refine post_ret ?_
    refine ends_flat (vs := [AV.bool (bif decide (v ≥ 0) then decide (v ≤ m) else false)]) (Nat.zero_lt_succ _) (by kernel_rfl) (flat_of _ (by kernel_rfl)) rfl ?_
    rw [cond_and]; rfl
  · cases e
def pu (a b c d : Int) : AV := .agg [.int .i64 a, .int .i64 b, .int .i64 c, .int .i64 d]
def wa (a b : Int) : AV := .agg [.int .i64 a, .int .i64 b]
def mayP (m en cm ce : Int) : Bool := inR 0 1073741824 cm && inR 0 1073741824 ce && inR 0 cm m && inR 0 ce en
def sMayP : Spec := fun args _ _ => match args with
  | [.agg [.int .i64 m, .int .i64 en, .int .i64 cm, .int .i64 ce]] => some ⟨[], .bool (mayP m en cm ce), [], []⟩
  | _ => none
theorem mayP_ok : SpecOK Try.prog 14 sMayP := by
  refine spec_own (by kernel_rfl) T_ok (sget_cons to_ok sget_nil) Try.func14 rfl rfl fun args hr nb out e => ?_
  unfold sMayP at e
  split at e
  · rename_i m en cm ce
    injection e with e; subst e
    refine ⟨(fun _ h => nomatch h), true, [.agg [.int .i64 m, .int .i64 en, .int .i64 cm, .int .i64 ce]], rfl, fun hs => ⟨.cons _ _ _ _ (.same _ _ (flat_of _ rfl).has) .nil, ?_⟩⟩
    refine evC_go0 (dec := []) (ks := [(0, 1), (0, 2), (1, 0), (1, 1), (1, 2), (1, 3), (1, 4)]) (s' := ⟨[(0, 1, Cont.cell (AV.ptr 1 0)), (0, 2, Cont.cell (AV.bool false)), (1, 0, Cont.cell (AV.int IntKind.i64 m)), (1, 1, Cont.cell (AV.int IntKind.i64 en)), (1, 2, Cont.cell (AV.int IntKind.i64 cm)), (1, 3, Cont.cell (AV.int IntKind.i64 ce)), (1, 4, Cont.top)], 17, 25⟩) (by kernel_rfl) (by kernel_rfl) ?_
    refine evC_go0 (dec := []) (ks := [(0, 2)]) (s' := ⟨[(0, 2, Cont.cell (AV.bool (bif bif bif inR 0 1073741824 cm then inR 0 1073741824 ce else false then inR 0 cm m else false then inR 0 ce en else false)))], 201, 25⟩) (by kernel_rfl) (by kernel_rfl) ?_
    refine evC_ret ?_
    refine post_ret ?_
    refine ends_flat (vs := [AV.bool (bif bif bif inR 0 1073741824 cm then inR 0 1073741824 ce else false then inR 0 cm m else false then inR 0 ce en else false)]) (Nat.zero_lt_succ _) (by kernel_rfl) (flat_of _ (by kernel_rfl)) rfl ?_
    simp only [cond_and]
    rfl
  · cases e
def wishF (a b : Int) : Bool := inR 0 1048576 a && inR 0 1048576 b
def sWish : Spec := fun args _ _ => match args with
  | [.agg [.int .i64 a, .int .i64 b]] => some ⟨[], .bool (wishF a b), [], []⟩
  | _ => none
theorem wish_ok : SpecOK Try.prog 35 sWish := by
  refine spec_own (by kernel_rfl) T_ok (sget_cons to_ok sget_nil) Try.func35 rfl rfl fun args hr nb out e => ?_
  unfold sWish at e
  split at e
  · rename_i a b
    injection e with e; subst e
    refine ⟨(fun _ h => nomatch h), true, [.agg [.int .i64 a, .int .i64 b]], rfl, fun hs => ⟨.cons _ _ _ _ (.same _ _ (flat_of _ rfl).has) .nil, ?_⟩⟩
    refine evC_go0 (dec := []) (ks := [(0, 1), (0, 2), (1, 0), (1, 1), (1, 2)]) (s' := ⟨[(0, 1, Cont.cell (AV.ptr 1 0)), (0, 2, Cont.cell (AV.bool false)), (1, 0, Cont.cell (AV.int IntKind.i64 a)), (1, 1, Cont.cell (AV.int IntKind.i64 b)), (1, 2, Cont.top)], 17, 11⟩) (by kernel_rfl) (by kernel_rfl) ?_
    refine evC_go0 (dec := []) (ks := [(0, 2)]) (s' := ⟨[(0, 2, Cont.cell (AV.bool (bif inR 0 1048576 a then inR 0 1048576 b else false)))], 89, 11⟩) (by kernel_rfl) (by kernel_rfl) ?_
    refine evC_ret ?_
    refine post_ret ?_
    refine ends_flat (vs := [AV.bool (bif inR 0 1048576 a then inR 0 1048576 b else false)]) (Nat.zero_lt_succ _) (by kernel_rfl) (flat_of _ (by kernel_rfl)) rfl ?_
    simp only [cond_and]
    rfl
  · cases e
theorem inR_of {lo hi x : Int} (h : lo ≤ x ∧ x ≤ hi) : inR lo hi x = true := inR_iff.2 h
/-- Scale, where there is enough, and at the one place that is a half. -/
def scF (a b : Int) : Int := bif decide (b ≤ a) then 65536 else 32768
def sScale : Spec := fun args _ _ => match args with
  | [.int .i64 a, .int .i64 b] => some ⟨[(a = 1 ∧ b = 2) ∨ (0 ≤ b ∧ b ≤ a ∧ a ≤ 1099511627776)], .tup [.int .i64 (scF a b), .int .i64 0], [], []⟩
  | _ => none
theorem scale_ok : SpecOK Try.prog 12 sScale := by
  refine spec_own (by kernel_rfl) T_ok (sget_cons to_ok (sget_cons muldiv_ok sget_nil)) Try.func12 rfl rfl fun args hr nb out e => ?_
  unfold sScale at e
  split at e
  · rename_i a b
    injection e with e; subst e
    refine ⟨(fun _ h => nomatch h), true, [.int .i64 a, .int .i64 b], rfl, fun hs => ⟨.cons _ _ _ _ (.same _ _ (.int _ _)) (.cons _ _ _ _ (.same _ _ (.int _ _)) .nil), ?_⟩⟩
    rcases hs _ List.mem_cons_self with ⟨rfl, rfl⟩ | ⟨h0, h1, h2⟩
    · clear hs
      refine evC_go0 (dec := []) (ks := [(0, 0), (0, 1), (0, 4), (0, 5)]) (s' := ⟨[(0, 0, Cont.cell (AV.int IntKind.i64 1)), (0, 1, Cont.cell (AV.int IntKind.i64 2)), (0, 4, Cont.cell (AV.int IntKind.i64 0)), (0, 5, Cont.cell (AV.int IntKind.i64 0))], 17, 22⟩) (by kernel_rfl) (by kernel_rfl) ?_
      refine evC_seq ?_
      refine evC_go0 (dec := []) (ks := [(0, 0), (0, 1), (0, 4), (0, 5), (0, 13)]) (s' := ⟨[(0, 0, Cont.cell (AV.int IntKind.i64 1)), (0, 1, Cont.cell (AV.int IntKind.i64 2)), (0, 4, Cont.cell (AV.int IntKind.i64 0)), (0, 5, Cont.cell (AV.int IntKind.i64 0)), (0, 13, Cont.cell (AV.bool false))], 81, 22⟩) (by kernel_rfl) (by kernel_rfl) ?_
      refine evC_if (q := false) (by kernel_rfl) (fun hc => ?_) (fun hc => ?_)
      · cases hc
      clear hc
      refine evC_skip ?_
      refine then_normal ?_
      refine evC_seq ?_
      refine evC_go0 (dec := []) (ks := [(0, 0), (0, 1), (0, 4), (0, 5), (0, 16)]) (s' := ⟨[(0, 0, Cont.cell (AV.int IntKind.i64 1)), (0, 1, Cont.cell (AV.int IntKind.i64 2)), (0, 4, Cont.cell (AV.int IntKind.i64 0)), (0, 5, Cont.cell (AV.int IntKind.i64 0)), (0, 16, Cont.cell (AV.bool false))], 105, 22⟩) (by kernel_rfl) (by kernel_rfl) ?_
      refine evC_if (q := false) (by kernel_rfl) (fun hc => ?_) (fun hc => ?_)
      · cases hc
      clear hc
      refine evC_skip ?_
      refine then_normal ?_
      refine evC_go0 (dec := []) (ks := [(0, 4), (0, 5)]) (s' := ⟨[(0, 4, Cont.cell (AV.int IntKind.i64 32768)), (0, 5, Cont.cell (AV.int IntKind.i64 0))], 161, 22⟩) (by kernel_rfl) (by kernel_rfl) ?_
      refine evC_ret ?_
      refine post_ret ?_
      refine ends_flat (vs := [AV.int IntKind.i64 32768, AV.int IntKind.i64 0]) (Nat.zero_lt_succ _) (by kernel_rfl) (flat_of _ (by kernel_rfl)) rfl ?_
      rfl
    · clear hs
      have e1 := inR_of (lo := 0) (hi := 1099511627776) (x := a) ⟨by omega, h2⟩
      have e2 := inR_of (lo := 0) (hi := 1099511627776) (x := b) ⟨h0, by omega⟩
      have e3 : scF a b = 65536 := by unfold scF; rw [decide_eq_true h1]; rfl
      rw [e3]
      refine evC_go0 (dec := []) (ks := [(0, 0), (0, 1), (0, 4), (0, 5)]) (s' := ⟨[(0, 0, Cont.cell (AV.int IntKind.i64 a)), (0, 1, Cont.cell (AV.int IntKind.i64 b)), (0, 4, Cont.cell (AV.int IntKind.i64 0)), (0, 5, Cont.cell (AV.int IntKind.i64 0))], 17, 22⟩) (by kernel_rfl) (by kernel_rfl) ?_
      refine evC_seq ?_
      refine evC_go0 (dec := []) (ks := [(0, 0), (0, 1), (0, 4), (0, 5), (0, 13)]) (s' := ⟨[(0, 0, Cont.cell (AV.int IntKind.i64 a)), (0, 1, Cont.cell (AV.int IntKind.i64 b)), (0, 4, Cont.cell (AV.int IntKind.i64 0)), (0, 5, Cont.cell (AV.int IntKind.i64 0)), (0, 13, Cont.cell (AV.bool (bif !inR 0 1099511627776 a then true else !inR 0 1099511627776 b)))], 81, 22⟩) (by kernel_rfl) (by kernel_rfl) ?_
      rw [e1, e2]
      refine evC_if (q := false) (by kernel_rfl) (fun hc => ?_) (fun hc => ?_)
      · cases hc
      clear hc
      refine evC_skip ?_
      refine then_normal ?_
      refine evC_seq ?_
      refine evC_go0 (dec := []) (ks := [(0, 0), (0, 1), (0, 4), (0, 5), (0, 16)]) (s' := ⟨[(0, 0, Cont.cell (AV.int IntKind.i64 a)), (0, 1, Cont.cell (AV.int IntKind.i64 b)), (0, 4, Cont.cell (AV.int IntKind.i64 0)), (0, 5, Cont.cell (AV.int IntKind.i64 0)), (0, 16, Cont.cell (AV.bool (decide (a ≥ b))))], 105, 22⟩) (by kernel_rfl) (by kernel_rfl) ?_
      refine evC_if (q := decide (a ≥ b)) (by kernel_rfl) (fun hc => ?_) (fun hc => ?_)
      · refine evC_go0 (dec := []) (ks := [(0, 0), (0, 1), (0, 4), (0, 5)]) (s' := ⟨[(0, 0, Cont.cell (AV.int IntKind.i64 a)), (0, 1, Cont.cell (AV.int IntKind.i64 b)), (0, 4, Cont.cell (AV.int IntKind.i64 65536)), (0, 5, Cont.cell (AV.int IntKind.i64 0))], 121, 22⟩) (by kernel_rfl) (by kernel_rfl) ?_
        refine evC_ret ?_
        refine then_ret ?_
        refine post_ret ?_
        refine ends_flat (vs := [AV.int IntKind.i64 65536, AV.int IntKind.i64 0]) (Nat.zero_lt_succ _) (by kernel_rfl) (flat_of _ (by kernel_rfl)) rfl ?_
        rfl
      · exfalso
        have := of_decide_eq_false hc
        omega
  · cases e
/-- A whole part. -/
def sPart : Spec := fun args _ _ => match args with
  | [.agg [.int .i64 a, .int .i64 b], .int .i64 65536] => some ⟨[wishF a b = true], .tup [wa a b, .int .i64 0], [], []⟩
  | _ => none
theorem part_whole {a : Int} (h : 0 ≤ a ∧ a ≤ 1048576) : (IntKind.i64.wrap (a * 65536)).fdiv (2 ^ min (Int.toNat 16) IntKind.i64.bits) = a := by
  have e1 : (2 : Int) ^ min (Int.toNat 16) IntKind.i64.bits = 65536 := rfl
  rw [e1, i64_in _ (by omega), Int.fdiv_eq_ediv_of_nonneg _ (by omega)]
  omega
theorem part_ok : SpecOK Try.prog 37 sPart := by
  refine spec_own (by kernel_rfl) T_ok (sget_cons wish_ok sget_nil) Try.func37 rfl rfl fun args hr nb out e => ?_
  unfold sPart at e
  split at e
  · rename_i a b
    injection e with e; subst e
    refine ⟨(fun _ h => nomatch h), true, [.agg [.int .i64 a, .int .i64 b], .int .i64 65536], rfl, fun hs => ⟨.cons _ _ _ _ (.same _ _ (flat_of _ rfl).has) (.cons _ _ _ _ (.same _ _ (.int _ _)) .nil), ?_⟩⟩
    have h1 := hs _ List.mem_cons_self
    clear hs
    have h2 : (0 ≤ a ∧ a ≤ 1048576) ∧ (0 ≤ b ∧ b ≤ 1048576) := by
      unfold wishF at h1
      simpa [inR] using h1
    refine evC_go0 (dec := []) (ks := [(0, 1), (0, 2), (0, 4), (0, 5), (1, 0), (1, 1), (1, 2), (9, 0), (9, 1), (9, 2)]) (s' := ⟨[(0, 1, Cont.cell (AV.int IntKind.i64 65536)), (0, 2, Cont.cell (AV.ptr 1 0)), (0, 4, Cont.cell (AV.ptr 9 0)), (0, 5, Cont.cell (AV.int IntKind.i64 0)), (1, 0, Cont.cell (AV.int IntKind.i64 a)), (1, 1, Cont.cell (AV.int IntKind.i64 b)), (1, 2, Cont.top), (9, 0, Cont.cell (AV.int IntKind.i64 0)), (9, 1, Cont.cell (AV.int IntKind.i64 0)), (9, 2, Cont.top)], 25, 29⟩) (by kernel_rfl) (by kernel_rfl) ?_
    refine evC_seq ?_
    refine evC_go0 (dec := []) (ks := [(0, 1), (0, 2), (0, 4), (0, 5), (0, 16), (1, 0), (1, 1), (1, 2), (9, 0), (9, 1), (9, 2)]) (s' := ⟨[(0, 1, Cont.cell (AV.int IntKind.i64 65536)), (0, 2, Cont.cell (AV.ptr 1 0)), (0, 4, Cont.cell (AV.ptr 9 0)), (0, 5, Cont.cell (AV.int IntKind.i64 0)), (0, 16, Cont.cell (AV.bool (bif bif !wishF a b then true else decide (65536 < 0) then true else decide (65536 > 65536)))), (1, 0, Cont.cell (AV.int IntKind.i64 a)), (1, 1, Cont.cell (AV.int IntKind.i64 b)), (1, 2, Cont.top), (9, 0, Cont.cell (AV.int IntKind.i64 0)), (9, 1, Cont.cell (AV.int IntKind.i64 0)), (9, 2, Cont.top)], 113, 29⟩) (by kernel_rfl) (by kernel_rfl) ?_
    rw [h1]
    refine evC_if (q := false) (by kernel_rfl) (fun hc => ?_) (fun hc => ?_)
    · cases hc
    clear hc
    refine evC_skip ?_
    refine then_normal ?_
    refine evC_go (dec := []) (ks := [(0, 4), (0, 5), (9, 0), (9, 1), (9, 2)]) (ps := [(0 : Int) ≤ (16 : Int), (0 : Int) ≤ (16 : Int)]) (s' := ⟨[(0, 4, Cont.cell (AV.ptr 9 0)), (0, 5, Cont.cell (AV.int IntKind.i64 0)), (9, 0, Cont.cell (AV.int IntKind.i64 (Int.fdiv (IntKind.i64.wrap (a * 65536)) (2 ^ min (Int.toNat 16) (IntKind.bits IntKind.i64))))), (9, 1, Cont.cell (AV.int IntKind.i64 (Int.fdiv (IntKind.i64.wrap (b * 65536)) (2 ^ min (Int.toNat 16) (IntKind.bits IntKind.i64))))), (9, 2, Cont.top)], 217, 29⟩) (by kernel_rfl) (by kernel_rfl) ?_ ?_
    · (simp only [All]; (repeat' apply And.intro) <;> (try intro _) <;> (try intro _) <;> (repeat' apply And.intro) <;> (try intro _) <;> (try intro _) <;> first | trivial | assumption | exact .inr trivial | exact .inr rfl | omega | rfl | exact ⟨_, rfl, rfl⟩ | exact ⟨rfl, rfl⟩ | exact ⟨fun _ => rfl, fun _ => rfl⟩ | (unfold maxLen; omega) | (unfold i64R; first | omega | decide) | decide)
    rw [part_whole h2.1, part_whole h2.2]
    refine evC_ret ?_
    refine post_ret ?_
    refine ends_flat (vs := [AV.agg [AV.int IntKind.i64 a, AV.int IntKind.i64 b], AV.int IntKind.i64 0]) (Nat.zero_lt_succ _) (by kernel_rfl) (flat_of _ (by kernel_rfl)) rfl ?_
    rfl
  · cases e
end Go.Eng.S26
