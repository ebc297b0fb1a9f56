/- Seat 13: one cost, few, small, walked. -/
import Derived.Test.YtmlpggggahpoaaaEngX
import Derived.Test.YtmlpggggahpoaaaS13G
set_option linter.unusedSimpArgs false
set_option linter.unusedVariables false
namespace Go.Eng.S13
open Go.Proofs Go.IntWalk
set_option maxRecDepth 10000

def sSmall : Spec := fun args hr nb => match args with
  | [.agg [.int .i64 W, .int .i64 H, v]] => match sl 1 hr v with
    | some (n, f, rd) => some ⟨[IsB n f], .bool (decide (n ≤ 160)), rd, []⟩
    | none => none
  | _ => none
theorem small_ok : SpecOK Try.prog 12 sSmall := by
  refine spec_own (by kernel_rfl) T_ok sget_nil Try.func12 rfl rfl fun args hr nb out e => ?_
  unfold sSmall at e
  split at e
  · rename_i W H v
    split at e
    · rename_i n f rd hs1
      injection e with e; subst e
      refine ⟨fun x hx => sl_rd hs1 x hx, false, [ld W H n (Bf f)], rfl, fun hs => ?_⟩
      have h1 := hs _ List.mem_cons_self
      refine ⟨land_pass hs1 (fun y hy => ⟨hy, by simp⟩) h1 .nil, ?_⟩
      clear hs h1
      generalize Bf f = g
      unfold ld
      refine evC_go0 (dec := []) (ks := [(0, 1), (0, 2), (1, 0), (1, 1), (1, 2), (1, 3)]) (s' := ⟨[(0, 1, Cont.cell (AV.ptr 1 0)), (0, 2, Cont.cell (AV.bool false)), (1, 0, Cont.cell (AV.int IntKind.i64 W)), (1, 1, Cont.cell (AV.int IntKind.i64 H)), (1, 2, Cont.cell (AV.rs 1 n false (nB g))), (1, 3, Cont.top)], 17, 7⟩) (by kernel_rfl) (by kernel_rfl) ?_
      refine evC_go0 (dec := []) (ks := [(0, 2)]) (s' := ⟨[(0, 2, Cont.cell (AV.bool (decide ((↑n : Int) ≤ 160))))], 57, 7⟩) (by kernel_rfl) (by kernel_rfl) ?_
      refine evC_ret ?_
      refine post_ret ?_
      refine ends_flat (vs := [AV.bool (decide ((↑n : Int) ≤ 160))]) (Nat.zero_lt_succ _) (by kernel_rfl) (flat_of _ (by kernel_rfl)) rfl ?_
      refine congrArg AV.bool ?_
      exact decide_eq_decide.2 (by omega)
    · cases e
  · cases e
def cut41 (n : Nat) : Nat := bif Nat.blt 4100 n then 4100 else n
theorem nB_cut (g : Nat → Bool) : (fun i => nB g (Int.toNat 0 + i)) = nB g := funext fun i => by simp
def sFew : Spec := fun args _ _ => match args with
  | [.agg [.int .i64 W, .int .i64 H, .rs 1 n b f]] => some ⟨[IsB n f, n ≤ maxLen], .agg [.int .i64 W, .int .i64 H, .rs 1 (cut41 n) false (nB (Bf f))], [], []⟩
  | _ => none
/-- One cost; its error. -/
def costE (W H : Int) (g : Nat → Bool) (n : Nat) (k t : Int) : Int := bif errC W H n t != 0 then errC W H n t else bif decide (k < 0) || decide (k ≥ (n : Int)) then 4 else bif decide (costs W H g n t k.toNat < 0) then 6 else 0
def costV (W H : Int) (g : Nat → Bool) (n : Nat) (k t : Int) : Int := bif errC W H n t != 0 then 0 else bif decide (k < 0) || decide (k ≥ (n : Int)) then 0 else bif decide (costs W H g n t k.toNat < 0) then 0 else costs W H g n t k.toNat
theorem err_zero {W H : Int} {n : Nat} {t : Int} (h : (errC W H n t != 0) = false) : errC W H n t = 0 ∧ lenC W H n t = n ∧ mayL W H n = true ∧ 0 ≤ t ∧ t < n := by
  unfold errC at h
  cases h1 : mayL W H n with
  | false => rw [h1] at h; cases h
  | true =>
    rw [h1] at h
    cases h2 : (decide (t < 0) || decide (t ≥ (n : Int))) with
    | true => rw [h2] at h; cases h
    | false =>
      simp only [Bool.or_eq_false_iff, decide_eq_false_iff_not] at h2
      have h3 : (decide (t < 0) || decide (t ≥ (n : Int))) = false := by simp; omega
      refine ⟨?_, ?_, rfl, by omega, by omega⟩
      · unfold errC; rw [h1, h3]; rfl
      · unfold lenC; rw [h1, h3]; rfl
def sCostOne : Spec := fun args hr nb => match args with
  | [.agg [.int .i64 W, .int .i64 H, v], .int .i64 k, .int .i64 t] => match sl 1 hr v with
    | some (n, f, rd) => some ⟨[IsB n f], .tup [.int .i64 (costV W H (Bf f) n k t), .int .i64 (costE W H (Bf f) n k t)], rd, []⟩
    | none => none
  | _ => none
theorem cost_one_ok : SpecOK Try.prog 14 sCostOne := by
  refine spec_own (by kernel_rfl) T_ok (sget_cons costs_ok sget_nil) Try.func14 rfl rfl fun args hr nb out e => ?_
  unfold sCostOne at e
  split at e
  · rename_i W H v k t
    split at e
    · rename_i n f rd hs1
      injection e with e; subst e
      refine ⟨fun x hx => sl_rd hs1 x hx, false, [ld W H n (Bf f), .int .i64 k, .int .i64 t], rfl, fun hs => ?_⟩
      have h1 := hs _ List.mem_cons_self
      refine ⟨land_pass hs1 (fun y hy => ⟨hy, by simp⟩) h1 (.cons _ _ _ _ (.same _ _ (.int _ _)) (.cons _ _ _ _ (.same _ _ (.int _ _)) .nil)), ?_⟩
      clear hs h1
      generalize Bf f = g
      have i1 := isB n g
      unfold ld
      have eE : costE W H g n k t = bif errC W H n t != 0 then errC W H n t else bif decide (k < 0) || decide (k ≥ (n : Int)) then 4 else bif decide (costs W H g n t k.toNat < 0) then 6 else 0 := rfl
      have eV : costV W H g n k t = bif errC W H n t != 0 then 0 else bif decide (k < 0) || decide (k ≥ (n : Int)) then 0 else bif decide (costs W H g n t k.toNat < 0) then 0 else costs W H g n t k.toNat := rfl
      rw [eE, eV]
      clear eE eV
      refine evC_go0 (dec := []) (ks := [(0, 1), (0, 2), (0, 3), (0, 6), (0, 7), (1, 0), (1, 1), (1, 2), (1, 3)]) (s' := ⟨[(0, 1, Cont.cell (AV.int IntKind.i64 k)), (0, 2, Cont.cell (AV.int IntKind.i64 t)), (0, 3, Cont.cell (AV.ptr 1 0)), (0, 6, Cont.cell (AV.int IntKind.i64 0)), (0, 7, Cont.cell (AV.int IntKind.i64 0)), (1, 0, Cont.cell (AV.int IntKind.i64 W)), (1, 1, Cont.cell (AV.int IntKind.i64 H)), (1, 2, Cont.cell (AV.rs 1 n false (nB g))), (1, 3, Cont.top)], 25, 39⟩) (by kernel_rfl) (by kernel_rfl) ?_
      refine evC_go (dec := []) (ks := [(0, 1), (0, 6), (0, 7), (0, 8), (0, 9), (41, 0)]) (ps := [IsB n (nB g)]) (s' := ⟨[(0, 1, Cont.cell (AV.int IntKind.i64 k)), (0, 6, Cont.cell (AV.int IntKind.i64 0)), (0, 7, Cont.cell (AV.int IntKind.i64 0)), (0, 8, Cont.cell (AV.vs 41)), (0, 9, Cont.cell (AV.int IntKind.i64 (errC W H n t))), (41, 0, Cont.vec 1 3 (lenC W H n t) (nI (costs W H (Bf (nB g)) n t)))], 89, 39⟩) (by kernel_rfl) (by kernel_rfl) ?_ ?_
      · exact i1
      rw [Bf_nB]
      refine evC_seq ?_
      refine evC_block ?_
      refine evC_go0 (dec := []) (ks := [(0, 1), (0, 6), (0, 7), (0, 8), (0, 9), (0, 16), (41, 0)]) (s' := ⟨[(0, 1, Cont.cell (AV.int IntKind.i64 k)), (0, 6, Cont.cell (AV.int IntKind.i64 0)), (0, 7, Cont.cell (AV.int IntKind.i64 0)), (0, 8, Cont.cell (AV.vs 41)), (0, 9, Cont.cell (AV.int IntKind.i64 (errC W H n t))), (0, 16, Cont.cell (AV.bool (errC W H n t != 0))), (41, 0, Cont.vec 1 3 (lenC W H n t) (nI (costs W H g n t)))], 113, 39⟩) (by kernel_rfl) (by kernel_rfl) ?_
      refine evC_if (q := errC W H n t != 0) (by kernel_rfl) (fun hc => ?_) (fun hc => ?_)
      · rw [hc]
        refine evC_go0 (dec := []) (ks := [(0, 1), (0, 6), (0, 7), (0, 8), (41, 0)]) (s' := ⟨[(0, 1, Cont.cell (AV.int IntKind.i64 k)), (0, 6, Cont.cell (AV.int IntKind.i64 0)), (0, 7, Cont.cell (AV.int IntKind.i64 (errC W H n t))), (0, 8, Cont.cell (AV.vs 41)), (41, 0, Cont.vec 1 3 (lenC W H n t) (nI (costs W H g n t)))], 137, 39⟩) (by kernel_rfl) (by kernel_rfl) ?_
        refine evC_ret ?_
        refine block_ret ?_
        refine then_ret ?_
        refine post_ret ?_
        refine ends_flat (vs := [AV.int IntKind.i64 0, AV.int IntKind.i64 (errC W H n t)]) (Nat.zero_lt_succ _) (by kernel_rfl) (flat_of _ (by kernel_rfl)) rfl ?_
        rfl
      · have h0 := err_zero hc
        rw [hc, h0.2.1]
        clear hc
        simp only [cond_false]
        refine evC_go0 (dec := []) (ks := [(0, 1), (0, 6), (0, 7), (0, 8), (0, 20), (41, 0)]) (s' := ⟨[(0, 1, Cont.cell (AV.int IntKind.i64 k)), (0, 6, Cont.cell (AV.int IntKind.i64 0)), (0, 7, Cont.cell (AV.int IntKind.i64 0)), (0, 8, Cont.cell (AV.vs 41)), (0, 20, Cont.cell (AV.bool (bif decide (k < 0) then true else decide (k ≥ (↑n : Int))))), (41, 0, Cont.vec 1 3 n (nI (costs W H g n t)))], 185, 39⟩) (by kernel_rfl) (by kernel_rfl) ?_
        rw [cond_or]
        refine evC_if (q := decide (k < 0) || decide (k ≥ (↑n : Int))) (by kernel_rfl) (fun hc => ?_) (fun hc => ?_)
        · rw [hc]
          refine evC_go0 (dec := []) (ks := [(0, 1), (0, 6), (0, 7), (0, 8), (41, 0)]) (s' := ⟨[(0, 1, Cont.cell (AV.int IntKind.i64 k)), (0, 6, Cont.cell (AV.int IntKind.i64 0)), (0, 7, Cont.cell (AV.int IntKind.i64 4)), (0, 8, Cont.cell (AV.vs 41)), (41, 0, Cont.vec 1 3 n (nI (costs W H g n t)))], 201, 39⟩) (by kernel_rfl) (by kernel_rfl) ?_
          refine evC_ret ?_
          refine block_ret ?_
          refine then_ret ?_
          refine post_ret ?_
          refine ends_flat (vs := [AV.int IntKind.i64 0, AV.int IntKind.i64 4]) (Nat.zero_lt_succ _) (by kernel_rfl) (flat_of _ (by kernel_rfl)) rfl ?_
          rfl
        · rw [hc]
          have hk : 0 ≤ k ∧ k < (n : Int) := by
            simp only [Bool.or_eq_false_iff, decide_eq_false_iff_not] at hc
            omega
          clear hc
          simp only [cond_false]
          refine evC_go (dec := []) (ks := [(0, 1), (0, 6), (0, 7), (0, 8), (0, 29), (41, 0)]) (ps := [(0 : Int) ≤ k, k < (↑n : Int), (1 : Nat) = (1 : Nat), (0 : Int) ≤ k, k < (↑n : Int), (1 : Nat) = (1 : Nat)]) (s' := ⟨[(0, 1, Cont.cell (AV.int IntKind.i64 k)), (0, 6, Cont.cell (AV.int IntKind.i64 0)), (0, 7, Cont.cell (AV.int IntKind.i64 0)), (0, 8, Cont.cell (AV.vs 41)), (0, 29, Cont.cell (AV.bool (decide (costs W H g n t (Int.toNat k) < 0)))), (41, 0, Cont.vec 1 3 n (nI (costs W H g n t)))], 233, 39⟩) (by kernel_rfl) (by kernel_rfl) ?_ ?_
          · (simp only [All]; (repeat' apply And.intro) <;> (try intro _) <;> (try intro _) <;> (repeat' apply And.intro) <;> (try intro _) <;> (try intro _) <;> first | trivial | assumption | exact .inr trivial | exact .inr rfl | omega | rfl | exact ⟨_, rfl, rfl⟩ | exact ⟨rfl, rfl⟩ | exact ⟨fun _ => rfl, fun _ => rfl⟩ | (unfold maxLen; omega) | (unfold i64R; first | omega | decide) | decide)
          refine evC_if (q := decide (costs W H g n t (Int.toNat k) < 0)) (by kernel_rfl) (fun hc => ?_) (fun hc => ?_)
          · rw [hc]
            refine evC_go0 (dec := []) (ks := [(0, 1), (0, 6), (0, 7), (0, 8), (41, 0)]) (s' := ⟨[(0, 1, Cont.cell (AV.int IntKind.i64 k)), (0, 6, Cont.cell (AV.int IntKind.i64 0)), (0, 7, Cont.cell (AV.int IntKind.i64 6)), (0, 8, Cont.cell (AV.vs 41)), (41, 0, Cont.vec 1 3 n (nI (costs W H g n t)))], 249, 39⟩) (by kernel_rfl) (by kernel_rfl) ?_
            refine evC_ret ?_
            refine block_ret ?_
            refine then_ret ?_
            refine post_ret ?_
            refine ends_flat (vs := [AV.int IntKind.i64 0, AV.int IntKind.i64 6]) (Nat.zero_lt_succ _) (by kernel_rfl) (flat_of _ (by kernel_rfl)) rfl ?_
            rfl
          · rw [hc]
            refine evC_skip ?_
            refine block_normal ?_
            refine then_normal ?_
            refine evC_go (dec := []) (ks := [(0, 6), (0, 7)]) (ps := [(0 : Int) ≤ k, k < (↑n : Int), (1 : Nat) = (1 : Nat), (0 : Int) ≤ k, k < (↑n : Int), (1 : Nat) = (1 : Nat)]) (s' := ⟨[(0, 6, Cont.cell (AV.int IntKind.i64 (costs W H g n t (Int.toNat k)))), (0, 7, Cont.cell (AV.int IntKind.i64 0))], 281, 39⟩) (by kernel_rfl) (by kernel_rfl) ?_ ?_
            · (simp only [All]; (repeat' apply And.intro) <;> (try intro _) <;> (try intro _) <;> (repeat' apply And.intro) <;> (try intro _) <;> (try intro _) <;> first | trivial | assumption | exact .inr trivial | exact .inr rfl | omega | rfl | exact ⟨_, rfl, rfl⟩ | exact ⟨rfl, rfl⟩ | exact ⟨fun _ => rfl, fun _ => rfl⟩ | (unfold maxLen; omega) | (unfold i64R; first | omega | decide) | decide)
            refine evC_ret ?_
            refine post_ret ?_
            refine ends_flat (vs := [AV.int IntKind.i64 (costs W H g n t (Int.toNat k)), AV.int IntKind.i64 0]) (Nat.zero_lt_succ _) (by kernel_rfl) (flat_of _ (by kernel_rfl)) rfl ?_
            rfl
    · cases e
  · cases e
theorem few_ok : SpecOK Try.prog 8 sFew := by
  refine spec_own (by kernel_rfl) T_ok sget_nil Try.func8 rfl rfl fun args hr nb out e => ?_
  unfold sFew at e
  split at e
  · rename_i W H n b f
    injection e with e; subst e
    refine ⟨(fun _ h => nomatch h), true, [ld W H n (Bf f)], rfl, fun hs => ?_⟩
    have h1 := hs _ List.mem_cons_self
    have h2 := hs _ (List.mem_cons_of_mem _ List.mem_cons_self)
    refine ⟨.agg _ _ _ _ rfl (fun i x y e1 e2 => ?_) (fun k g hk => ?_) .nil, ?_⟩
    · match i with
      | 0 => cases e1; cases e2; exact .same _ _ (.int _ _)
      | 1 => cases e1; cases e2; exact .same _ _ (.int _ _)
      | 2 => cases e1; cases e2; exact .rs _ _ _ _ _ _ fun i hi => ⟨h1.get i hi, (nB_flat _ i).has⟩
      | i + 3 => simp at e1
    · simp only [List.mem_cons, List.not_mem_nil, or_false] at hk
      rcases hk with hk | hk | hk <;> cases hk
    clear hs h1
    unfold maxLen at h2
    generalize Bf f = g
    unfold ld
    refine evC_go0 (dec := []) (ks := [(0, 1), (0, 2), (1, 0), (1, 1), (1, 2), (1, 3), (9, 0), (9, 1), (9, 2), (9, 3)]) (s' := ⟨[(0, 1, Cont.cell (AV.ptr 1 0)), (0, 2, Cont.cell (AV.ptr 9 0)), (1, 0, Cont.cell (AV.int IntKind.i64 W)), (1, 1, Cont.cell (AV.int IntKind.i64 H)), (1, 2, Cont.cell (AV.rs 1 n false (nB g))), (1, 3, Cont.top), (9, 0, Cont.cell (AV.int IntKind.i64 0)), (9, 1, Cont.cell (AV.int IntKind.i64 0)), (9, 2, Cont.cell AV.nils), (9, 3, Cont.top)], 17, 12⟩) (by kernel_rfl) (by kernel_rfl) ?_
    refine evC_cutTo (ι := Unit) (fun _ => ⟨[(0, 1, Cont.cell (AV.ptr 1 0)), (0, 2, Cont.cell (AV.ptr 2 0)), (1, 0, Cont.cell (AV.int IntKind.i64 W)), (1, 1, Cont.cell (AV.int IntKind.i64 H)), (1, 2, .cell (.rs 1 (cut41 n) false (nB g))), (1, 3, Cont.top), (2, 0, Cont.cell (AV.int IntKind.i64 0)), (2, 1, Cont.cell (AV.int IntKind.i64 0)), (2, 2, Cont.cell AV.nils), (2, 3, Cont.top)], 3, 12⟩) ?_ ?_
    · refine evC_go0 (dec := []) (ks := [(0, 1), (0, 2), (0, 6), (1, 0), (1, 1), (1, 2), (1, 3), (9, 0), (9, 1), (9, 2), (9, 3)]) (s' := ⟨[(0, 1, Cont.cell (AV.ptr 1 0)), (0, 2, Cont.cell (AV.ptr 9 0)), (0, 6, Cont.cell (AV.bool (decide ((↑n : Int) > 4100)))), (1, 0, Cont.cell (AV.int IntKind.i64 W)), (1, 1, Cont.cell (AV.int IntKind.i64 H)), (1, 2, Cont.cell (AV.rs 1 n false (nB g))), (1, 3, Cont.top), (9, 0, Cont.cell (AV.int IntKind.i64 0)), (9, 1, Cont.cell (AV.int IntKind.i64 0)), (9, 2, Cont.cell AV.nils), (9, 3, Cont.top)], 49, 12⟩) (by kernel_rfl) (by kernel_rfl) ?_
      refine evC_if (q := decide ((↑n : Int) > 4100)) (by kernel_rfl) (fun hc => ?_) (fun hc => ?_)
      · have hg : 4100 < n := by have := of_decide_eq_true hc; omega
        have hk : cut41 n = 4100 := by unfold cut41; rw [nblt_yes hg]; rfl
        refine evC_goL (dec := []) (ks := [(0, 1), (0, 2), (1, 0), (1, 1), (1, 2), (1, 3), (9, 0), (9, 1), (9, 2), (9, 3)]) (ps := [(0 : Int) ≤ (0 : Int), (0 : Int) ≤ (4100 : Int), (4100 : Int) ≤ (↑n : Int), (4100 : Int) = (4100 : Int), (1 : Nat) = (1 : Nat), false = true → true = true]) (s' := ⟨[(0, 1, Cont.cell (AV.ptr 1 0)), (0, 2, Cont.cell (AV.ptr 9 0)), (1, 0, Cont.cell (AV.int IntKind.i64 W)), (1, 1, Cont.cell (AV.int IntKind.i64 H)), (1, 2, Cont.cell (AV.rs 1 4100 false fun i => nB g (Int.toNat 0 + i))), (1, 3, Cont.top), (9, 0, Cont.cell (AV.int IntKind.i64 0)), (9, 1, Cont.cell (AV.int IntKind.i64 0)), (9, 2, Cont.cell AV.nils), (9, 3, Cont.top)], 89, 12⟩) (by kernel_rfl) (by kernel_rfl) ?_ ?_
        · (simp only [All]; (repeat' apply And.intro) <;> (try intro _) <;> (try intro _) <;> (repeat' apply And.intro) <;> (try intro _) <;> (try intro _) <;> first | trivial | assumption | exact .inr trivial | exact .inr rfl | omega | rfl | exact ⟨_, rfl, rfl⟩ | exact ⟨rfl, rfl⟩ | exact ⟨fun _ => rfl, fun _ => rfl⟩ | (unfold maxLen; omega) | (unfold i64R; first | omega | decide) | decide)
        rw [nB_cut]
        refine cut_normal (()) (wk_go [1, 9] rfl (by decide) rfl rfl ⟨⟨_, rfl, rfl⟩, ⟨_, rfl, rfl⟩, ⟨_, rfl, rfl⟩, ⟨_, rfl, rfl⟩, ⟨_, rfl, ?_⟩, ⟨_, rfl, trivial⟩, ⟨_, rfl, rfl⟩, ⟨_, rfl, rfl⟩, ⟨_, rfl, rfl⟩, ⟨_, rfl, trivial⟩, trivial⟩)
        rw [hk]; rfl
      · have hg : ¬ 4100 < n := by have := of_decide_eq_false hc; omega
        have hk : cut41 n = n := by unfold cut41; rw [nblt_no hg]; rfl
        refine evC_skip ?_
        refine cut_normal (()) (wk_go [1, 9] rfl (by decide) rfl rfl ⟨⟨_, rfl, rfl⟩, ⟨_, rfl, rfl⟩, ⟨_, rfl, rfl⟩, ⟨_, rfl, rfl⟩, ⟨_, rfl, ?_⟩, ⟨_, rfl, trivial⟩, ⟨_, rfl, rfl⟩, ⟨_, rfl, rfl⟩, ⟨_, rfl, rfl⟩, ⟨_, rfl, trivial⟩, trivial⟩)
        rw [hk]; rfl
    intro _
    refine evC_go0 (dec := []) (ks := [(0, 2), (2, 0), (2, 1), (2, 2), (2, 3)]) (s' := ⟨[(0, 2, Cont.cell (AV.ptr 2 0)), (2, 0, Cont.cell (AV.int IntKind.i64 W)), (2, 1, Cont.cell (AV.int IntKind.i64 H)), (2, 2, Cont.cell (AV.rs 1 (cut41 n) false (nB g))), (2, 3, Cont.top)], 19, 12⟩) (by kernel_rfl) (by kernel_rfl) ?_
    refine evC_ret ?_
    refine post_ret ?_
    refine ends_go [] (AV.agg [AV.int IntKind.i64 W, AV.int IntKind.i64 H, AV.rs 1 (cut41 n) false (nB g)]) [] rfl (by decide) rfl rfl (?_) rfl trivial trivial (kept_nil _)
    · refine .agg _ fun v hv => ?_
      simp only [List.mem_cons, List.not_mem_nil, or_false] at hv
      rcases hv with rfl | rfl | rfl
      · exact .int _ _
      · exact .int _ _
      · exact .rs _ _ _ _ rfl fun i _ => (nB_flat g i).has
  · cases e
end Go.Eng.S13
