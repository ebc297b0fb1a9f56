/- Seat top, land: checks of maps, the least and the greatest, walked. -/
import Derived.Test.YthfpdhhnokhldaaEngX
import Derived.Test.YthfpdhhnokhldaaS27A
set_option linter.unusedSimpArgs false
set_option linter.unusedVariables false
namespace Go.Eng.S27
open Go.Proofs Go.IntWalk
set_option maxRecDepth 10000

def rightD (W H A : Int) : Bool := decide (1 ≤ W) && decide (W ≤ 64) && decide (1 ≤ H) && decide (H ≤ 64) && decide (0 ≤ A) && decide (A ≤ 255)
/-- Is a map right: the error. -/
def chk (W H A : Int) (n : Nat) : Int := bif !rightD W H A then 1 else bif decide ((n : Int) < (W + 1) * (H + 1)) then 2 else bif decide ((n : Int) > (W + 1) * (H + 1)) then 7 else 0
theorem rightD_get {W H A : Int} (h : rightD W H A = true) : (1 ≤ W ∧ W ≤ 64) ∧ (1 ≤ H ∧ H ≤ 64) ∧ (0 ≤ A ∧ A ≤ 255) ∧ 4 ≤ (W + 1) * (H + 1) ∧ (W + 1) * (H + 1) ≤ 4225 := by
  unfold rightD at h
  simp only [Bool.and_eq_true, decide_eq_true_eq] at h
  have h1 := Int.mul_le_mul_of_nonneg_left (by omega : H + 1 ≤ 65) (by omega : 0 ≤ W + 1)
  have h2 := Int.mul_le_mul_of_nonneg_left (by omega : 2 ≤ H + 1) (by omega : 0 ≤ W + 1)
  omega
theorem chk_get {W H A : Int} {n : Nat} (h : chk W H A n = 0) : rightD W H A = true ∧ (n : Int) = (W + 1) * (H + 1) := by
  unfold chk at h
  cases h1 : rightD W H A with
  | false => rw [h1] at h; cases h
  | true =>
    rw [h1] at h
    cases h2 : decide ((n : Int) < (W + 1) * (H + 1)) with
    | true => rw [h2] at h; cases h
    | false =>
      rw [h2] at h
      cases h3 : decide ((n : Int) > (W + 1) * (H + 1)) with
      | true => rw [h3] at h; cases h
      | false =>
        have a := of_decide_eq_false h2
        have b := of_decide_eq_false h3
        exact ⟨rfl, by omega⟩
def sCheck : Spec := fun args hr _ => match args with
  | [.agg [.int .i64 W, .int .i64 H, .int .i64 A, v]] => match sl 1 hr v with
    | some (n, f, rd) => some ⟨[IsU n f], .int .i64 (chk W H A n), rd, []⟩
    | none => none
  | _ => none
theorem check_ok : SpecOK Try.prog 22 sCheck := by
  refine spec_own (by kernel_rfl) T_ok sget_nil Try.func22 rfl rfl fun args hr nb out e => ?_
  unfold sCheck at e
  split at e
  · rename_i W H A v
    split at e
    · rename_i n f rd hs1
      injection e with e; subst e
      refine ⟨fun x hx => sl_rd hs1 x hx, false, [mp4 W H A n (U f)], rfl, fun hs => ?_⟩
      have h1 := hs _ List.mem_cons_self
      refine ⟨map_pass hs1 (fun y hy => ⟨hy, by simp⟩) h1 .nil, ?_⟩
      clear hs h1
      generalize U f = u
      unfold mp4
      have hcond : (bif bif bif bif bif decide (W < 1) then true else decide (W > 64) then true else decide (H < 1) then true else decide (H > 64) then true else decide (A < 0) then true else decide (A > 255)) = !rightD W H A := by
        unfold rightD
        simp only [cond_or]
        by_cases a : 1 ≤ W <;> by_cases b : W ≤ 64 <;> by_cases c : 1 ≤ H <;> by_cases d : H ≤ 64 <;> by_cases e : 0 ≤ A <;> by_cases f : A ≤ 255 <;> simp [a, b, c, d, e, f] <;> omega
      unfold chk
      refine evC_go0 (dec := []) (ks := [(0, 1), (0, 2), (1, 0), (1, 1), (1, 2), (1, 3), (1, 4)]) (s' := ⟨[(0, 1, Cont.cell (AV.ptr 1 0)), (0, 2, Cont.cell (AV.int IntKind.i64 0)), (1, 0, Cont.cell (AV.int IntKind.i64 W)), (1, 1, Cont.cell (AV.int IntKind.i64 H)), (1, 2, Cont.cell (AV.int IntKind.i64 A)), (1, 3, Cont.cell (AV.rs 1 n false (nU u))), (1, 4, Cont.top)], 17, 51⟩) (by kernel_rfl) (by kernel_rfl) ?_
      refine evC_seq ?_
      refine evC_go0 (dec := []) (ks := [(0, 1), (0, 2), (0, 31), (1, 0), (1, 1), (1, 2), (1, 3), (1, 4)]) (s' := ⟨[(0, 1, Cont.cell (AV.ptr 1 0)), (0, 2, Cont.cell (AV.int IntKind.i64 0)), (0, 31, Cont.cell (AV.bool (bif bif bif bif bif decide (W < 1) then true else decide (W > 64) then true else decide (H < 1) then true else decide (H > 64) then true else decide (A < 0) then true else decide (A > 255)))), (1, 0, Cont.cell (AV.int IntKind.i64 W)), (1, 1, Cont.cell (AV.int IntKind.i64 H)), (1, 2, Cont.cell (AV.int IntKind.i64 A)), (1, 3, Cont.cell (AV.rs 1 n false (nU u))), (1, 4, Cont.top)], 241, 51⟩) (by kernel_rfl) (by kernel_rfl) ?_
      rw [hcond]
      clear hcond
      refine evC_if (q := !rightD W H A) (by kernel_rfl) (fun hc => ?_) (fun hc => ?_)
      · rw [hc]
        refine evC_go0 (dec := []) (ks := [(0, 1), (0, 2), (1, 0), (1, 1), (1, 2), (1, 3), (1, 4)]) (s' := ⟨[(0, 1, Cont.cell (AV.ptr 1 0)), (0, 2, Cont.cell (AV.int IntKind.i64 1)), (1, 0, Cont.cell (AV.int IntKind.i64 W)), (1, 1, Cont.cell (AV.int IntKind.i64 H)), (1, 2, Cont.cell (AV.int IntKind.i64 A)), (1, 3, Cont.cell (AV.rs 1 n false (nU u))), (1, 4, Cont.top)], 249, 51⟩) (by kernel_rfl) (by kernel_rfl) ?_
        refine evC_ret ?_
        refine then_ret ?_
        refine post_ret ?_
        refine ends_flat (vs := [AV.int IntKind.i64 1]) (Nat.zero_lt_succ _) (by kernel_rfl) (flat_of _ (by kernel_rfl)) rfl ?_
        rfl
      · rw [hc]
        have hR : rightD W H A = true := by simpa using hc
        obtain ⟨r1, r2, r3, r4, r5⟩ := rightD_get hR
        simp only [cond_false]
        refine evC_skip ?_
        refine then_normal ?_
        refine evC_seq ?_
        refine evC_go0 (dec := []) (ks := [(0, 1), (0, 2), (0, 3), (1, 0), (1, 1), (1, 2), (1, 3), (1, 4)]) (s' := ⟨[(0, 1, Cont.cell (AV.ptr 1 0)), (0, 2, Cont.cell (AV.int IntKind.i64 0)), (0, 3, Cont.cell (AV.int IntKind.i64 (IntKind.i64.wrap (IntKind.i64.wrap (W + 1) * IntKind.i64.wrap (H + 1))))), (1, 0, Cont.cell (AV.int IntKind.i64 W)), (1, 1, Cont.cell (AV.int IntKind.i64 H)), (1, 2, Cont.cell (AV.int IntKind.i64 A)), (1, 3, Cont.cell (AV.rs 1 n false (nU u))), (1, 4, Cont.top)], 305, 51⟩) (by kernel_rfl) (by kernel_rfl) ?_
        rw [i64_in (W + 1) (by omega), i64_in (H + 1) (by omega), i64_in ((W + 1) * (H + 1)) (by omega)]
        clear hc
        refine evC_block ?_
        refine evC_go0 (dec := []) (ks := [(0, 1), (0, 2), (0, 3), (0, 39), (1, 0), (1, 1), (1, 2), (1, 3), (1, 4)]) (s' := ⟨[(0, 1, Cont.cell (AV.ptr 1 0)), (0, 2, Cont.cell (AV.int IntKind.i64 0)), (0, 3, Cont.cell (AV.int IntKind.i64 ((W + 1) * (H + 1)))), (0, 39, Cont.cell (AV.bool (decide ((↑n : Int) < (W + 1) * (H + 1))))), (1, 0, Cont.cell (AV.int IntKind.i64 W)), (1, 1, Cont.cell (AV.int IntKind.i64 H)), (1, 2, Cont.cell (AV.int IntKind.i64 A)), (1, 3, Cont.cell (AV.rs 1 n false (nU u))), (1, 4, Cont.top)], 353, 51⟩) (by kernel_rfl) (by kernel_rfl) ?_
        refine evC_if (q := decide ((↑n : Int) < (W + 1) * (H + 1))) (by kernel_rfl) (fun hc => ?_) (fun hc => ?_)
        · rw [hc]
          refine evC_go0 (dec := []) (ks := [(0, 2)]) (s' := ⟨[(0, 2, Cont.cell (AV.int IntKind.i64 2))], 361, 51⟩) (by kernel_rfl) (by kernel_rfl) ?_
          refine evC_ret ?_
          refine block_ret ?_
          refine then_ret ?_
          refine post_ret ?_
          refine ends_flat (vs := [AV.int IntKind.i64 2]) (Nat.zero_lt_succ _) (by kernel_rfl) (flat_of _ (by kernel_rfl)) rfl ?_
          rfl
        · rw [hc]
          clear hc
          simp only [cond_false]
          refine evC_go0 (dec := []) (ks := [(0, 2), (0, 45)]) (s' := ⟨[(0, 2, Cont.cell (AV.int IntKind.i64 0)), (0, 45, Cont.cell (AV.bool (decide ((↑n : Int) > (W + 1) * (H + 1)))))], 401, 51⟩) (by kernel_rfl) (by kernel_rfl) ?_
          refine evC_if (q := decide ((↑n : Int) > (W + 1) * (H + 1))) (by kernel_rfl) (fun hc => ?_) (fun hc => ?_)
          · rw [hc]
            refine evC_go0 (dec := []) (ks := [(0, 2)]) (s' := ⟨[(0, 2, Cont.cell (AV.int IntKind.i64 7))], 409, 51⟩) (by kernel_rfl) (by kernel_rfl) ?_
            refine evC_ret ?_
            refine block_ret ?_
            refine then_ret ?_
            refine post_ret ?_
            refine ends_flat (vs := [AV.int IntKind.i64 7]) (Nat.zero_lt_succ _) (by kernel_rfl) (flat_of _ (by kernel_rfl)) rfl ?_
            rfl
          · rw [hc]
            refine evC_skip ?_
            refine block_normal ?_
            refine then_normal ?_
            refine evC_go0 (dec := []) (ks := [(0, 2)]) (s' := ⟨[(0, 2, Cont.cell (AV.int IntKind.i64 0))], 409, 51⟩) (by kernel_rfl) (by kernel_rfl) ?_
            refine evC_ret ?_
            refine post_ret ?_
            refine ends_flat (vs := [AV.int IntKind.i64 0]) (Nat.zero_lt_succ _) (by kernel_rfl) (flat_of _ (by kernel_rfl)) rfl ?_
            rfl
    · cases e
  · cases e
theorem rcheck_ok : SpecOK Try.prog 8 sCheck := by
  refine spec_own (by kernel_rfl) T_ok sget_nil Try.func8 rfl rfl fun args hr nb out e => ?_
  unfold sCheck at e
  split at e
  · rename_i W H A v
    split at e
    · rename_i n f rd hs1
      injection e with e; subst e
      refine ⟨fun x hx => sl_rd hs1 x hx, false, [mp4 W H A n (U f)], rfl, fun hs => ?_⟩
      have h1 := hs _ List.mem_cons_self
      refine ⟨map_pass hs1 (fun y hy => ⟨hy, by simp⟩) h1 .nil, ?_⟩
      clear hs h1
      generalize U f = u
      unfold mp4
      have hcond : (!bif bif bif bif bif decide (1 ≤ W) then decide (W ≤ 64) else false then decide (1 ≤ H) else false then decide (H ≤ 64) else false then decide (0 ≤ A) else false then decide (A ≤ 255) else false) = !rightD W H A := by
        unfold rightD
        simp only [cond_and]
      unfold chk
      refine evC_go0 (dec := []) (ks := [(0, 1), (0, 2), (1, 0), (1, 1), (1, 2), (1, 3), (1, 4)]) (s' := ⟨[(0, 1, Cont.cell (AV.ptr 1 0)), (0, 2, Cont.cell (AV.int IntKind.i64 0)), (1, 0, Cont.cell (AV.int IntKind.i64 W)), (1, 1, Cont.cell (AV.int IntKind.i64 H)), (1, 2, Cont.cell (AV.int IntKind.i64 A)), (1, 3, Cont.cell (AV.rs 1 n false (nU u))), (1, 4, Cont.top)], 17, 54⟩) (by kernel_rfl) (by kernel_rfl) ?_
      refine evC_seq ?_
      refine evC_go0 (dec := []) (ks := [(0, 1), (0, 2), (0, 31), (1, 0), (1, 1), (1, 2), (1, 3), (1, 4)]) (s' := ⟨[(0, 1, Cont.cell (AV.ptr 1 0)), (0, 2, Cont.cell (AV.int IntKind.i64 0)), (0, 31, Cont.cell (AV.bool !bif bif bif bif bif decide (1 ≤ W) then decide (W ≤ 64) else false then decide (1 ≤ H) else false then decide (H ≤ 64) else false then decide (0 ≤ A) else false then decide (A ≤ 255) else false)), (1, 0, Cont.cell (AV.int IntKind.i64 W)), (1, 1, Cont.cell (AV.int IntKind.i64 H)), (1, 2, Cont.cell (AV.int IntKind.i64 A)), (1, 3, Cont.cell (AV.rs 1 n false (nU u))), (1, 4, Cont.top)], 249, 54⟩) (by kernel_rfl) (by kernel_rfl) ?_
      rw [hcond]
      clear hcond
      refine evC_if (q := !rightD W H A) (by kernel_rfl) (fun hc => ?_) (fun hc => ?_)
      · rw [hc]
        refine evC_go0 (dec := []) (ks := [(0, 1), (0, 2), (1, 0), (1, 1), (1, 2), (1, 3), (1, 4)]) (s' := ⟨[(0, 1, Cont.cell (AV.ptr 1 0)), (0, 2, Cont.cell (AV.int IntKind.i64 1)), (1, 0, Cont.cell (AV.int IntKind.i64 W)), (1, 1, Cont.cell (AV.int IntKind.i64 H)), (1, 2, Cont.cell (AV.int IntKind.i64 A)), (1, 3, Cont.cell (AV.rs 1 n false (nU u))), (1, 4, Cont.top)], 257, 54⟩) (by kernel_rfl) (by kernel_rfl) ?_
        refine evC_ret ?_
        refine then_ret ?_
        refine post_ret ?_
        refine ends_flat (vs := [AV.int IntKind.i64 1]) (Nat.zero_lt_succ _) (by kernel_rfl) (flat_of _ (by kernel_rfl)) rfl ?_
        rfl
      · rw [hc]
        have hR : rightD W H A = true := by simpa using hc
        obtain ⟨r1, r2, r3, r4, r5⟩ := rightD_get hR
        simp only [cond_false]
        clear hc
        refine evC_skip ?_
        refine then_normal ?_
        refine evC_seq ?_
        refine evC_go0 (dec := []) (ks := [(0, 1), (0, 2), (0, 42), (1, 0), (1, 1), (1, 2), (1, 3), (1, 4)]) (s' := ⟨[(0, 1, Cont.cell (AV.ptr 1 0)), (0, 2, Cont.cell (AV.int IntKind.i64 0)), (0, 42, Cont.cell (AV.bool (decide ((↑n : Int) < IntKind.i64.wrap (IntKind.i64.wrap (W + 1) * IntKind.i64.wrap (H + 1)))))), (1, 0, Cont.cell (AV.int IntKind.i64 W)), (1, 1, Cont.cell (AV.int IntKind.i64 H)), (1, 2, Cont.cell (AV.int IntKind.i64 A)), (1, 3, Cont.cell (AV.rs 1 n false (nU u))), (1, 4, Cont.top)], 337, 54⟩) (by kernel_rfl) (by kernel_rfl) ?_
        rw [i64_in (W + 1) (by omega), i64_in (H + 1) (by omega), i64_in ((W + 1) * (H + 1)) (by omega)]
        refine evC_if (q := decide ((↑n : Int) < (W + 1) * (H + 1))) (by kernel_rfl) (fun hc => ?_) (fun hc => ?_)
        · rw [hc]
          refine evC_go0 (dec := []) (ks := [(0, 1), (0, 2), (1, 0), (1, 1), (1, 2), (1, 3), (1, 4)]) (s' := ⟨[(0, 1, Cont.cell (AV.ptr 1 0)), (0, 2, Cont.cell (AV.int IntKind.i64 2)), (1, 0, Cont.cell (AV.int IntKind.i64 W)), (1, 1, Cont.cell (AV.int IntKind.i64 H)), (1, 2, Cont.cell (AV.int IntKind.i64 A)), (1, 3, Cont.cell (AV.rs 1 n false (nU u))), (1, 4, Cont.top)], 345, 54⟩) (by kernel_rfl) (by kernel_rfl) ?_
          refine evC_ret ?_
          refine then_ret ?_
          refine post_ret ?_
          refine ends_flat (vs := [AV.int IntKind.i64 2]) (Nat.zero_lt_succ _) (by kernel_rfl) (flat_of _ (by kernel_rfl)) rfl ?_
          rfl
        · rw [hc]
          clear hc
          simp only [cond_false]
          refine evC_skip ?_
          refine then_normal ?_
          refine evC_seq ?_
          refine evC_go0 (dec := []) (ks := [(0, 2), (0, 53)]) (s' := ⟨[(0, 2, Cont.cell (AV.int IntKind.i64 0)), (0, 53, Cont.cell (AV.bool (decide ((↑n : Int) > IntKind.i64.wrap (IntKind.i64.wrap (W + 1) * IntKind.i64.wrap (H + 1))))))], 425, 54⟩) (by kernel_rfl) (by kernel_rfl) ?_
          rw [i64_in (W + 1) (by omega), i64_in (H + 1) (by omega), i64_in ((W + 1) * (H + 1)) (by omega)]
          refine evC_if (q := decide ((↑n : Int) > (W + 1) * (H + 1))) (by kernel_rfl) (fun hc => ?_) (fun hc => ?_)
          · rw [hc]
            refine evC_go0 (dec := []) (ks := [(0, 2)]) (s' := ⟨[(0, 2, Cont.cell (AV.int IntKind.i64 7))], 433, 54⟩) (by kernel_rfl) (by kernel_rfl) ?_
            refine evC_ret ?_
            refine then_ret ?_
            refine post_ret ?_
            refine ends_flat (vs := [AV.int IntKind.i64 7]) (Nat.zero_lt_succ _) (by kernel_rfl) (flat_of _ (by kernel_rfl)) rfl ?_
            rfl
          · rw [hc]
            refine evC_skip ?_
            refine then_normal ?_
            refine evC_go0 (dec := []) (ks := [(0, 2)]) (s' := ⟨[(0, 2, Cont.cell (AV.int IntKind.i64 0))], 433, 54⟩) (by kernel_rfl) (by kernel_rfl) ?_
            refine evC_ret ?_
            refine post_ret ?_
            refine ends_flat (vs := [AV.int IntKind.i64 0]) (Nat.zero_lt_succ _) (by kernel_rfl) (flat_of _ (by kernel_rfl)) rfl ?_
            rfl
    · cases e
  · cases e
end Go.Eng.S27
