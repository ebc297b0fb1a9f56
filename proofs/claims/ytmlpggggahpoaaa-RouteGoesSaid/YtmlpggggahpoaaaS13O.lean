/- Seat 13: the law of the costs, walked. -/
import Derived.Test.YtmlpggggahpoaaaEngX
import Derived.Test.YtmlpggggahpoaaaS13N
set_option linter.unusedSimpArgs false
set_option linter.unusedVariables false
namespace Go.Eng.S13
open Go.Proofs Go.IntWalk
set_option maxRecDepth 10000

/-- A land that is handed in as it is. -/
theorem land_rs {hr : Rd} {rdl : List (Nat × Nat × Cont)} {K : List Nat} {nb : Nat} {W H : Int} {n : Nat} {b : Bool} {f : Nat → AV} (h : IsB n f) {vs vs' : List AV} (t : PassL hr rdl K nb false vs vs') :
    PassL hr rdl K nb false (.agg [.int .i64 W, .int .i64 H, .rs 1 n b f] :: vs) (ld W H n (Bf f) :: vs') := by
  refine .agg _ _ _ _ rfl (fun i x y e1 e2 => ?_) (fun k g hk => ?_) t
  · match i with
    | 0 => cases e1; cases e2; exact .same _ _ (.int _ _)
    | 1 => cases e1; cases e2; exact .same _ _ (.int _ _)
    | 2 => cases e1; cases e2; exact .rs _ _ _ _ _ _ fun i hi => ⟨h.get i hi, (nB_flat _ i).has⟩
    | i + 3 => simp at e1
  · simp only [List.mem_cons, List.not_mem_nil, or_false] at hk
    rcases hk with hk | hk | hk <;> cases hk
theorem cut41_le (n : Nat) : cut41 n ≤ 4100 := by
  unfold cut41
  rcases Nat.lt_or_ge 4100 n with h | h
  · rw [nblt_yes h]; exact Nat.le_refl _
  · rw [nblt_no (by omega)]; exact h
def sLawC : Spec := fun args hr nb => match args with
  | [.agg [.int .i64 W, .int .i64 H, .rs 1 n b f], .int .i64 t] => some ⟨[(f = nB (Bf f)) ∧ n ≤ maxLen], .bool true, [], []⟩
  | _ => none
theorem law_costs_ok : SpecOK Try.prog 3 sLawC := by
  refine spec_own (by kernel_rfl) T_ok (sget_cons few_ok (sget_cons costs_ok (sget_cons refMay_ok (sget_cons small_ok (sget_cons rcosts_ok (sget_cons awake_ok sget_nil)))))) Try.func3 rfl rfl fun args hr nb out e => ?_
  unfold sLawC at e
  split at e
  · rename_i W H n b f t
    injection e with e; subst e
    refine ⟨(fun _ h => nomatch h), false, [ld W H n (Bf f), .int .i64 t], rfl, fun hs => ?_⟩
    obtain ⟨h1, h2⟩ := hs _ List.mem_cons_self
    have i1 : IsB n f := ⟨fun i _ => congrFun h1 i⟩
    refine ⟨land_rs i1 (.cons _ _ _ _ (.same _ _ (.int _ _)) .nil), ?_⟩
    clear hs h1 i1
    generalize Bf f = g
    unfold ld
    refine evC_go0 (dec := []) (ks := [(0, 1), (0, 2), (0, 4), (1, 0), (1, 1), (1, 2), (1, 3)]) (s' := ⟨[(0, 1, Cont.cell (AV.int IntKind.i64 t)), (0, 2, Cont.cell (AV.ptr 1 0)), (0, 4, Cont.cell (AV.bool false)), (1, 0, Cont.cell (AV.int IntKind.i64 W)), (1, 1, Cont.cell (AV.int IntKind.i64 H)), (1, 2, Cont.cell (AV.rs 1 n false (nB g))), (1, 3, Cont.top)], 17, 93⟩) (by kernel_rfl) (by kernel_rfl) ?_
    refine evC_go (dec := []) (ks := [(0, 1), (0, 2), (0, 4), (1, 0), (1, 1), (1, 2), (1, 3)]) (ps := [IsB n (nB g), n ≤ maxLen]) (s' := ⟨[(0, 1, Cont.cell (AV.int IntKind.i64 t)), (0, 2, Cont.cell (AV.ptr 1 0)), (0, 4, Cont.cell (AV.bool false)), (1, 0, Cont.cell (AV.int IntKind.i64 W)), (1, 1, Cont.cell (AV.int IntKind.i64 H)), (1, 2, Cont.cell (AV.rs 1 (cut41 n) false (nB (Bf (nB g))))), (1, 3, Cont.top)], 41, 93⟩) (by kernel_rfl) (by kernel_rfl) ?_ ?_
    · exact ⟨isB n g, h2⟩
    rw [Bf_nB]
    have hm := cut41_le n
    generalize cut41 n = m at hm
    have i1 := isB m g
    refine evC_go (dec := []) (ks := [(0, 1), (0, 2), (0, 4), (0, 5), (0, 6), (1, 0), (1, 1), (1, 2), (1, 3), (57, 0)]) (ps := [IsB m (nB g)]) (s' := ⟨[(0, 1, Cont.cell (AV.int IntKind.i64 t)), (0, 2, Cont.cell (AV.ptr 1 0)), (0, 4, Cont.cell (AV.bool false)), (0, 5, Cont.cell (AV.vs 57)), (0, 6, Cont.cell (AV.int IntKind.i64 (errC W H m t))), (1, 0, Cont.cell (AV.int IntKind.i64 W)), (1, 1, Cont.cell (AV.int IntKind.i64 H)), (1, 2, Cont.cell (AV.rs 1 m false (nB g))), (1, 3, Cont.top), (57, 0, Cont.vec 1 3 (lenC W H m t) (nI (costs W H (Bf (nB g)) m t)))], 105, 93⟩) (by kernel_rfl) (by kernel_rfl) ?_ ?_
    · exact i1
    rw [Bf_nB]
    refine evC_seq ?_
    refine evC_go (dec := []) (ks := [(0, 1), (0, 2), (0, 4), (0, 5), (0, 6), (0, 19), (1, 0), (1, 1), (1, 2), (1, 3), (57, 0)]) (ps := [IsB m (nB g)]) (s' := ⟨[(0, 1, Cont.cell (AV.int IntKind.i64 t)), (0, 2, Cont.cell (AV.ptr 1 0)), (0, 4, Cont.cell (AV.bool false)), (0, 5, Cont.cell (AV.vs 57)), (0, 6, Cont.cell (AV.int IntKind.i64 (errC W H m t))), (0, 19, Cont.cell (AV.bool !mayL W H m)), (1, 0, Cont.cell (AV.int IntKind.i64 W)), (1, 1, Cont.cell (AV.int IntKind.i64 H)), (1, 2, Cont.cell (AV.rs 1 m false (nB g))), (1, 3, Cont.top), (57, 0, Cont.vec 1 3 (lenC W H m t) (nI (costs W H g m t)))], 129, 93⟩) (by kernel_rfl) (by kernel_rfl) ?_ ?_
    · exact i1
    refine evC_if (q := !mayL W H m) (by kernel_rfl) (fun hc => ?_) (fun hc => ?_)
    · have hm0 : mayL W H m = false := by simpa using hc
      have e1 : errC W H m t = 1 := by unfold errC; rw [hm0]; rfl
      have e2 : lenC W H m t = 0 := by unfold lenC; rw [hm0]; rfl
      rw [e1, e2]
      refine evC_go0 (dec := []) (ks := [(0, 1), (0, 2), (0, 4), (0, 5), (0, 6), (1, 0), (1, 1), (1, 2), (1, 3), (57, 0)]) (s' := ⟨[(0, 1, Cont.cell (AV.int IntKind.i64 t)), (0, 2, Cont.cell (AV.ptr 1 0)), (0, 4, Cont.cell (AV.bool true)), (0, 5, Cont.cell (AV.vs 57)), (0, 6, Cont.cell (AV.int IntKind.i64 1)), (1, 0, Cont.cell (AV.int IntKind.i64 W)), (1, 1, Cont.cell (AV.int IntKind.i64 H)), (1, 2, Cont.cell (AV.rs 1 m false (nB g))), (1, 3, Cont.top), (57, 0, Cont.vec 1 3 0 (nI (costs W H g m t)))], 217, 93⟩) (by kernel_rfl) (by kernel_rfl) ?_
      refine evC_ret ?_
      refine then_ret ?_
      refine post_ret ?_
      refine ends_flat (vs := [AV.bool true]) (Nat.zero_lt_succ _) (by kernel_rfl) (flat_of _ (by kernel_rfl)) rfl ?_
      rfl
    · have hm0 : mayL W H m = true := by simpa using hc
      clear hc
      refine evC_skip ?_
      refine then_normal ?_
      refine evC_seq ?_
      refine evC_go0 (dec := []) (ks := [(0, 1), (0, 2), (0, 4), (0, 5), (0, 6), (0, 38), (1, 0), (1, 1), (1, 2), (1, 3), (57, 0)]) (s' := ⟨[(0, 1, Cont.cell (AV.int IntKind.i64 t)), (0, 2, Cont.cell (AV.ptr 1 0)), (0, 4, Cont.cell (AV.bool false)), (0, 5, Cont.cell (AV.vs 57)), (0, 6, Cont.cell (AV.int IntKind.i64 (errC W H m t))), (0, 38, Cont.cell (AV.bool (bif decide (t < 0) then true else decide (t ≥ (↑m : Int))))), (1, 0, Cont.cell (AV.int IntKind.i64 W)), (1, 1, Cont.cell (AV.int IntKind.i64 H)), (1, 2, Cont.cell (AV.rs 1 m false (nB g))), (1, 3, Cont.top), (57, 0, Cont.vec 1 3 (lenC W H m t) (nI (costs W H g m t)))], 201, 93⟩) (by kernel_rfl) (by kernel_rfl) ?_
      rw [cond_or]
      refine evC_if (q := decide (t < 0) || decide (t ≥ (↑m : Int))) (by kernel_rfl) (fun hc => ?_) (fun hc => ?_)
      · have e1 : errC W H m t = 4 := by unfold errC; rw [hm0, hc]; rfl
        have e2 : lenC W H m t = 0 := by unfold lenC; rw [hm0, hc]; rfl
        rw [e1, e2]
        refine evC_go0 (dec := []) (ks := [(0, 1), (0, 2), (0, 4), (0, 5), (0, 6), (1, 0), (1, 1), (1, 2), (1, 3), (57, 0)]) (s' := ⟨[(0, 1, Cont.cell (AV.int IntKind.i64 t)), (0, 2, Cont.cell (AV.ptr 1 0)), (0, 4, Cont.cell (AV.bool true)), (0, 5, Cont.cell (AV.vs 57)), (0, 6, Cont.cell (AV.int IntKind.i64 4)), (1, 0, Cont.cell (AV.int IntKind.i64 W)), (1, 1, Cont.cell (AV.int IntKind.i64 H)), (1, 2, Cont.cell (AV.rs 1 m false (nB g))), (1, 3, Cont.top), (57, 0, Cont.vec 1 3 0 (nI (costs W H g m t)))], 289, 93⟩) (by kernel_rfl) (by kernel_rfl) ?_
        refine evC_ret ?_
        refine then_ret ?_
        refine post_ret ?_
        refine ends_flat (vs := [AV.bool true]) (Nat.zero_lt_succ _) (by kernel_rfl) (flat_of _ (by kernel_rfl)) rfl ?_
        rfl
      · have e1 : errC W H m t = 0 := by unfold errC; rw [hm0, hc]; rfl
        have e2 : lenC W H m t = m := by unfold lenC; rw [hm0, hc]; rfl
        rw [e1, e2]
        have ht : 0 ≤ t ∧ t < (m : Int) := by
          simp only [Bool.or_eq_false_iff, decide_eq_false_iff_not] at hc
          omega
        clear hc
        refine evC_skip ?_
        refine then_normal ?_
        refine evC_seq ?_
        refine evC_go (dec := []) (ks := [(0, 1), (0, 2), (0, 4), (0, 5), (0, 6), (0, 51), (1, 0), (1, 1), (1, 2), (1, 3), (57, 0)]) (ps := [IsB m (nB g)]) (s' := ⟨[(0, 1, Cont.cell (AV.int IntKind.i64 t)), (0, 2, Cont.cell (AV.ptr 1 0)), (0, 4, Cont.cell (AV.bool false)), (0, 5, Cont.cell (AV.vs 57)), (0, 6, Cont.cell (AV.int IntKind.i64 0)), (0, 51, Cont.cell (AV.bool !decide (m ≤ 160))), (1, 0, Cont.cell (AV.int IntKind.i64 W)), (1, 1, Cont.cell (AV.int IntKind.i64 H)), (1, 2, Cont.cell (AV.rs 1 m false (nB g))), (1, 3, Cont.top), (57, 0, Cont.vec 1 3 m (nI (costs W H g m t)))], 225, 93⟩) (by kernel_rfl) (by kernel_rfl) ?_ ?_
        · exact i1
        refine evC_if (q := !decide (m ≤ 160)) (by kernel_rfl) (fun hc => ?_) (fun hc => ?_)
        · refine evC_go0 (dec := []) (ks := [(0, 1), (0, 2), (0, 4), (0, 5), (0, 6), (1, 0), (1, 1), (1, 2), (1, 3), (57, 0)]) (s' := ⟨[(0, 1, Cont.cell (AV.int IntKind.i64 t)), (0, 2, Cont.cell (AV.ptr 1 0)), (0, 4, Cont.cell (AV.bool (bif bif (↑m : Int) == (↑m : Int) then 0 == 0 else false then true else false))), (0, 5, Cont.cell (AV.vs 57)), (0, 6, Cont.cell (AV.int IntKind.i64 0)), (1, 0, Cont.cell (AV.int IntKind.i64 W)), (1, 1, Cont.cell (AV.int IntKind.i64 H)), (1, 2, Cont.cell (AV.rs 1 m false (nB g))), (1, 3, Cont.top), (57, 0, Cont.vec 1 3 m (nI (costs W H g m t)))], 337, 93⟩) (by kernel_rfl) (by kernel_rfl) ?_
          refine evC_ret ?_
          refine then_ret ?_
          refine post_ret ?_
          refine ends_flat (vs := [AV.bool (bif bif (↑m : Int) == (↑m : Int) then 0 == 0 else false then true else false)]) (Nat.zero_lt_succ _) (by kernel_rfl) (flat_of _ (by kernel_rfl)) rfl ?_
          simp [oneAV]
        · clear hc
          refine evC_skip ?_
          refine then_normal ?_
          refine evC_go (dec := []) (ks := [(0, 4), (0, 5), (0, 6), (0, 7), (57, 0), (241, 0)]) (ps := [IsB m (nB g), mayL W H m = true, (0 : Int) ≤ t ∧ t < (↑m : Int)]) (s' := ⟨[(0, 4, Cont.cell (AV.bool false)), (0, 5, Cont.cell (AV.vs 57)), (0, 6, Cont.cell (AV.int IntKind.i64 0)), (0, 7, Cont.cell (AV.vs 241)), (57, 0, Cont.vec 1 3 m (nI (costs W H g m t))), (241, 0, Cont.vec 1 3 m (nI (costs W H (Bf (nB g)) m t)))], 257, 93⟩) (by kernel_rfl) (by kernel_rfl) ?_ ?_
          · exact ⟨i1, hm0, ht⟩
          rw [Bf_nB]
          refine evC_seq ?_
          refine evC_go0 (dec := []) (ks := [(0, 4), (0, 5), (0, 7), (0, 76), (57, 0), (241, 0)]) (s' := ⟨[(0, 4, Cont.cell (AV.bool false)), (0, 5, Cont.cell (AV.vs 57)), (0, 7, Cont.cell (AV.vs 241)), (0, 76, Cont.cell (AV.bool (bif (↑m : Int) != (↑m : Int) then true else 0 != 0))), (57, 0, Cont.vec 1 3 m (nI (costs W H g m t))), (241, 0, Cont.vec 1 3 m (nI (costs W H g m t)))], 329, 93⟩) (by kernel_rfl) (by kernel_rfl) ?_
          refine evC_if (q := bif (↑m : Int) != (↑m : Int) then true else 0 != 0) (by kernel_rfl) (fun hc => ?_) (fun hc => ?_)
          · exfalso
            simp at hc
          clear hc
          refine evC_skip ?_
          refine then_normal ?_
          refine evC_seq ?_
          refine evC_go0 (dec := []) (ks := [(0, 4), (0, 5), (0, 7), (0, 8), (57, 0), (241, 0)]) (s' := ⟨[(0, 4, Cont.cell (AV.bool false)), (0, 5, Cont.cell (AV.vs 57)), (0, 7, Cont.cell (AV.vs 241)), (0, 8, Cont.cell (AV.int IntKind.i64 0)), (57, 0, Cont.vec 1 3 m (nI (costs W H g m t))), (241, 0, Cont.vec 1 3 m (nI (costs W H g m t)))], 337, 93⟩) (by kernel_rfl) (by kernel_rfl) ?_
          refine evC_block ?_
          refine evC_loop (ι := { i : Nat // i ≤ m }) (fun x => ⟨[(0, 4, Cont.cell (AV.bool false)), (0, 5, Cont.cell (AV.vs 1)), (0, 7, Cont.cell (AV.vs 2)), (0, 8, .cell (.int .i64 (x.1 : Nat))), (1, 0, Cont.vec 1 3 m (nI (costs W H g m t))), (2, 0, Cont.vec 1 3 m (nI (costs W H g m t)))], 3, 93⟩) (fun x => m - x.1) ⟨0, Nat.zero_le _⟩ (wk_go [57, 241] rfl (by decide) rfl rfl ⟨⟨_, rfl, rfl⟩, ⟨_, rfl, rfl⟩, ⟨_, rfl, rfl⟩, ⟨_, rfl, rfl⟩, ⟨_, rfl, rfl, rfl, rfl, fun _ _ => rfl⟩, ⟨_, rfl, rfl, rfl, rfl, fun _ _ => rfl⟩, trivial⟩) ?_
          rintro ⟨i, hi⟩
          refine evC_seq ?_
          refine evC_go0 (dec := []) (ks := [(0, 4), (0, 5), (0, 7), (0, 8), (0, 80), (1, 0), (2, 0)]) (s' := ⟨[(0, 4, Cont.cell (AV.bool false)), (0, 5, Cont.cell (AV.vs 1)), (0, 7, Cont.cell (AV.vs 2)), (0, 8, Cont.cell (AV.int IntKind.i64 (↑i : Int))), (0, 80, Cont.cell (AV.bool (decide ((↑i : Int) < (↑m : Int))))), (1, 0, Cont.vec 1 3 m (nI (costs W H g m t))), (2, 0, Cont.vec 1 3 m (nI (costs W H g m t)))], 35, 93⟩) (by kernel_rfl) (by kernel_rfl) ?_
          refine evC_if (q := decide ((↑i : Int) < (↑m : Int))) (by kernel_rfl) (fun hc => ?_) (fun hc => ?_)
          · have hlt : i < m := by have := of_decide_eq_true hc; omega
            clear hc
            refine evC_skip ?_
            refine then_normal ?_
            refine evC_seq ?_
            refine evC_block ?_
            refine evC_go (dec := []) (ks := [(0, 4), (0, 5), (0, 7), (0, 8), (0, 91), (1, 0), (2, 0)]) (ps := [(0 : Int) ≤ (↑i : Int), (↑i : Int) < (↑m : Int), (1 : Nat) = (1 : Nat), (0 : Int) ≤ (↑i : Int), (↑i : Int) < (↑m : Int), (1 : Nat) = (1 : Nat), (0 : Int) ≤ (↑i : Int), (↑i : Int) < (↑m : Int), (1 : Nat) = (1 : Nat), (0 : Int) ≤ (↑i : Int), (↑i : Int) < (↑m : Int), (1 : Nat) = (1 : Nat)]) (s' := ⟨[(0, 4, Cont.cell (AV.bool false)), (0, 5, Cont.cell (AV.vs 1)), (0, 7, Cont.cell (AV.vs 2)), (0, 8, Cont.cell (AV.int IntKind.i64 (↑i : Int))), (0, 91, Cont.cell (AV.bool (costs W H g m t i != costs W H g m t i))), (1, 0, Cont.vec 1 3 m (nI (costs W H g m t))), (2, 0, Cont.vec 1 3 m (nI (costs W H g m t)))], 107, 93⟩) (by kernel_rfl) (by kernel_rfl) ?_ ?_
            · (simp only [All]; (repeat' apply And.intro) <;> (try intro _) <;> (try intro _) <;> (repeat' apply And.intro) <;> (try intro _) <;> (try intro _) <;> first | trivial | assumption | exact .inr trivial | exact .inr rfl | omega | rfl | exact ⟨_, rfl, rfl⟩ | exact ⟨rfl, rfl⟩ | exact ⟨fun _ => rfl, fun _ => rfl⟩ | (unfold maxLen; omega) | (unfold i64R; first | omega | decide) | decide)
            refine evC_if (q := costs W H g m t i != costs W H g m t i) (by kernel_rfl) (fun hc => ?_) (fun hc => ?_)
            · exfalso
              simp at hc
            clear hc
            refine evC_skip ?_
            refine block_normal ?_
            refine then_normal ?_
            refine evC_goL0 (dec := []) (ks := [(0, 4), (0, 5), (0, 7), (0, 8), (1, 0), (2, 0)]) (s' := ⟨[(0, 4, Cont.cell (AV.bool false)), (0, 5, Cont.cell (AV.vs 1)), (0, 7, Cont.cell (AV.vs 2)), (0, 8, Cont.cell (AV.int IntKind.i64 (IntKind.i64.wrap ((↑i : Int) + 1)))), (1, 0, Cont.vec 1 3 m (nI (costs W H g m t))), (2, 0, Cont.vec 1 3 m (nI (costs W H g m t)))], 131, 93⟩) (by kernel_rfl) (by kernel_rfl) ?_
            rw [wrap_add_one hlt (by omega)]
            refine round_normal (⟨i + 1, hlt⟩) (wk_go [1, 2] rfl (by decide) rfl rfl ⟨⟨_, rfl, rfl⟩, ⟨_, rfl, rfl⟩, ⟨_, rfl, rfl⟩, ⟨_, rfl, rfl⟩, ⟨_, rfl, ⟨rfl, rfl, rfl, fun _ _ => rfl⟩⟩, ⟨_, rfl, ⟨rfl, rfl, rfl, fun _ _ => rfl⟩⟩, trivial⟩) ?_
            · show m - (i + 1) < m - i
              omega
          · clear hc
            refine evC_exit ?_
            refine then_exit ?_
            refine round_exit ?_
            refine block_exit ?_
            refine then_normal ?_
            refine evC_go0 (dec := []) (ks := [(0, 4)]) (s' := ⟨[(0, 4, Cont.cell (AV.bool true))], 51, 93⟩) (by kernel_rfl) (by kernel_rfl) ?_
            refine evC_ret ?_
            refine post_ret ?_
            refine ends_flat (vs := [AV.bool true]) (Nat.zero_lt_succ _) (by kernel_rfl) (flat_of _ (by kernel_rfl)) rfl ?_
            rfl
  · cases e
end Go.Eng.S13
