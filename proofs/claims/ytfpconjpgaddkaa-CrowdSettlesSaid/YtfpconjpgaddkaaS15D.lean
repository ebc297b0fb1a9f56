/- Seat 15: the laws CrowdChecks, CrowdSettles, CrowdHeld, walked. -/
import Derived.Test.YtfpconjpgaddkaaEngX
import Derived.Test.YtfpconjpgaddkaaS15C
set_option linter.unusedSimpArgs false
set_option linter.unusedVariables false
namespace Go.Eng.S15
open Go.Proofs Go.IntWalk
set_option maxRecDepth 10000

def sCrowdChecks : Spec := fun args _ _ => match args with
  | [.agg [.int .i64 c, .rs 1 no false g, .rs 1 n false f, .rs 1 m false f2]] => some ⟨[(g = nB (G g) ∧ f = nI (W f) ∧ f2 = nI (W f2)) ∧ no ≤ maxLen ∧ n ≤ maxLen ∧ m ≤ maxLen], .bool true, [], []⟩
  | _ => none
theorem crowdChecks_ok : SpecOK Try.prog 3 sCrowdChecks := by
  refine spec_own (by kernel_rfl) T_ok (sget_cons few_ok (sget_cons check_ok (sget_cons refCheck_ok (sget_cons awake_ok sget_nil)))) Try.func3 rfl rfl fun args hr nb out e => ?_
  unfold sCrowdChecks at e
  split at e
  · rename_i c no g n f m f2
    injection e with e; subst e
    refine ⟨(fun _ h => nomatch h), true, [crowd c no (G g) n (W f) m (W f2)], rfl, fun hs => ?_⟩
    obtain ⟨⟨h0, h1, h2⟩, h3, h4, h5⟩ := hs _ List.mem_cons_self
    rw [crowd_eq (r := fun _ => True) h0 h1 h2]
    refine ⟨.cons _ _ _ _ (.same _ _ (crowd_has _ _ _ _ _ _ _)) .nil, ?_⟩
    clear hs h0 h1 h2
    generalize W f = w
    generalize W f2 = x
    generalize G g = q
    have k1 := cut_le no 4100
    have k2 := cut_le n 66
    have k3 := cut_le m 66
    unfold crowd
    refine evC_go0 (dec := []) (ks := [(0, 1), (0, 2), (1, 0), (1, 1), (1, 2), (1, 3), (1, 4)]) (s' := ⟨[(0, 1, Cont.cell (AV.ptr 1 0)), (0, 2, Cont.cell (AV.bool false)), (1, 0, Cont.cell (AV.int IntKind.i64 c)), (1, 1, Cont.cell (AV.rs 1 no false (nB q))), (1, 2, Cont.cell (AV.rs 1 n false (nI w))), (1, 3, Cont.cell (AV.rs 1 m false (nI x))), (1, 4, Cont.top)], 17, 27⟩) (by kernel_rfl) (by kernel_rfl) ?_
    refine evC_go (dec := []) (ks := [(0, 1), (0, 2), (1, 0), (1, 1), (1, 2), (1, 3), (1, 4)]) (ps := [(nB q = nB (G (nB q)) ∧ nI w = nI (W (nI w)) ∧ nI x = nI (W (nI x))) ∧ no ≤ maxLen ∧ n ≤ maxLen ∧ m ≤ maxLen]) (s' := ⟨[(0, 1, Cont.cell (AV.ptr 1 0)), (0, 2, Cont.cell (AV.bool false)), (1, 0, Cont.cell (AV.int IntKind.i64 c)), (1, 1, Cont.cell (AV.rs 1 (cut no 4100) false (nB (G (nB q))))), (1, 2, Cont.cell (AV.rs 1 (cut n 66) false (nI (W (nI w))))), (1, 3, Cont.cell (AV.rs 1 (cut m 66) false (nI (W (nI x))))), (1, 4, Cont.top)], 41, 27⟩) (by kernel_rfl) (by kernel_rfl) ?_ ?_
    · exact ⟨⟨rfl, rfl, rfl⟩, h3, h4, h5⟩
    unfold maxLen at h3 h4 h5
    rw [W_nI w, W_nI x, G_nB q]
    generalize cut no 4100 = no at *
    generalize cut n 66 = n at *
    generalize cut m 66 = m at *
    refine evC_go (dec := []) (ks := [(0, 2)]) (ps := [(∀ (i : Nat), i < no → nB q i = nB (G (nB q)) i) ∧ (∀ (i : Nat), i < n → nI w i = nI (W (nI w)) i) ∧ (∀ (i : Nat), i < m → nI x i = nI (W (nI x)) i) ∧ no ≤ maxLen ∧ n ≤ maxLen ∧ m ≤ maxLen, (∀ (i : Nat), i < no → nB q i = nB (G (nB q)) i) ∧ (∀ (i : Nat), i < n → nI w i = nI (W (nI w)) i) ∧ (∀ (i : Nat), i < m → nI x i = nI (W (nI x)) i) ∧ no ≤ maxLen ∧ n ≤ maxLen ∧ m ≤ maxLen]) (s' := ⟨[(0, 2, Cont.cell (AV.bool (bif chkF c no n m (W (nI w)) (W (nI x)) == chkF c no n m (W (nI w)) (W (nI x)) then true else false)))], 225, 27⟩) (by kernel_rfl) (by kernel_rfl) ?_ ?_
    · (simp only [All]; (repeat' apply And.intro) <;> (try intro _) <;> (try intro _) <;> (repeat' apply And.intro) <;> (try intro _) <;> (try intro _) <;> first | trivial | assumption | exact .inr trivial | exact .inr rfl | omega | rfl | exact ⟨_, rfl, rfl⟩ | exact ⟨rfl, rfl⟩ | exact ⟨fun _ => rfl, fun _ => rfl⟩ | (unfold maxLen; omega) | (unfold i64R; first | omega | decide) | decide)
    refine evC_ret ?_
    refine post_ret ?_
    refine ends_flat (vs := [AV.bool (bif chkF c no n m (W (nI w)) (W (nI x)) == chkF c no n m (W (nI w)) (W (nI x)) then true else false)]) (Nat.zero_lt_succ _) (by kernel_rfl) (flat_of _ (by kernel_rfl)) rfl ?_
    simp [oneAV]
  · cases e

def sCrowdSettles : Spec := fun args _ _ => match args with
  | [.agg [.int .i64 c, .rs 1 no false g, .rs 1 n false f, .rs 1 m false f2]] => some ⟨[(g = nB (G g) ∧ f = nI (W f) ∧ f2 = nI (W f2)) ∧ no ≤ maxLen ∧ n ≤ maxLen ∧ m ≤ maxLen], .bool true, [], []⟩
  | _ => none
theorem crowdSettles_ok : SpecOK Try.prog 4 sCrowdSettles := by
  refine spec_own (by kernel_rfl) T_ok (sget_cons few_ok (sget_cons settle_ok (sget_cons refCheck_ok (sget_cons refSettle_ok (sget_cons same_ok (sget_cons awake_ok sget_nil)))))) Try.func4 rfl rfl fun args hr nb out e => ?_
  unfold sCrowdSettles at e
  split at e
  · rename_i c no g n f m f2
    injection e with e; subst e
    refine ⟨(fun _ h => nomatch h), true, [crowd c no (G g) n (W f) m (W f2)], rfl, fun hs => ?_⟩
    obtain ⟨⟨h0, h1, h2⟩, h3, h4, h5⟩ := hs _ List.mem_cons_self
    rw [crowd_eq (r := fun _ => True) h0 h1 h2]
    refine ⟨.cons _ _ _ _ (.same _ _ (crowd_has _ _ _ _ _ _ _)) .nil, ?_⟩
    clear hs h0 h1 h2
    generalize W f = w
    generalize W f2 = x
    generalize G g = q
    have k1 := cut_le no 4100
    have k2 := cut_le n 66
    have k3 := cut_le m 66
    unfold crowd
    refine evC_go0 (dec := []) (ks := [(0, 1), (0, 2), (1, 0), (1, 1), (1, 2), (1, 3), (1, 4)]) (s' := ⟨[(0, 1, Cont.cell (AV.ptr 1 0)), (0, 2, Cont.cell (AV.bool false)), (1, 0, Cont.cell (AV.int IntKind.i64 c)), (1, 1, Cont.cell (AV.rs 1 no false (nB q))), (1, 2, Cont.cell (AV.rs 1 n false (nI w))), (1, 3, Cont.cell (AV.rs 1 m false (nI x))), (1, 4, Cont.top)], 17, 104⟩) (by kernel_rfl) (by kernel_rfl) ?_
    refine evC_go (dec := []) (ks := [(0, 1), (0, 2), (1, 0), (1, 1), (1, 2), (1, 3), (1, 4)]) (ps := [(nB q = nB (G (nB q)) ∧ nI w = nI (W (nI w)) ∧ nI x = nI (W (nI x))) ∧ no ≤ maxLen ∧ n ≤ maxLen ∧ m ≤ maxLen]) (s' := ⟨[(0, 1, Cont.cell (AV.ptr 1 0)), (0, 2, Cont.cell (AV.bool false)), (1, 0, Cont.cell (AV.int IntKind.i64 c)), (1, 1, Cont.cell (AV.rs 1 (cut no 4100) false (nB (G (nB q))))), (1, 2, Cont.cell (AV.rs 1 (cut n 66) false (nI (W (nI w))))), (1, 3, Cont.cell (AV.rs 1 (cut m 66) false (nI (W (nI x))))), (1, 4, Cont.top)], 41, 104⟩) (by kernel_rfl) (by kernel_rfl) ?_ ?_
    · exact ⟨⟨rfl, rfl, rfl⟩, h3, h4, h5⟩
    unfold maxLen at h3 h4 h5
    rw [W_nI w, W_nI x, G_nB q]
    generalize cut no 4100 = no at *
    generalize cut n 66 = n at *
    generalize cut m 66 = m at *
    refine evC_go (dec := []) (ks := [(0, 1), (0, 2), (0, 3), (1, 0), (1, 1), (1, 2), (1, 3), (1, 4), (65, 0)]) (ps := [((0 : Nat) + n) * (8 : Nat) ≤ (140737488355328 : Nat), (0 : Nat) + n ≤ maxLen, n = (0 : Nat) ∨ (1 : Nat) = (1 : Nat), (1 : Nat) = (1 : Nat), (3 : Nat) = (3 : Nat)]) (s' := ⟨[(0, 1, Cont.cell (AV.ptr 1 0)), (0, 2, Cont.cell (AV.bool false)), (0, 3, Cont.cell (AV.vs 65)), (1, 0, Cont.cell (AV.int IntKind.i64 c)), (1, 1, Cont.cell (AV.rs 1 no false (nB q))), (1, 2, Cont.cell (AV.rs 1 n false (nI w))), (1, 3, Cont.cell (AV.rs 1 m false (nI x))), (1, 4, Cont.top), (65, 0, Cont.vec 1 3 (0 + n) (catF 0 (pget []) (nI w)))], 81, 104⟩) (by kernel_rfl) (by kernel_rfl) ?_ ?_
    · (simp only [All]; (repeat' apply And.intro) <;> (try intro _) <;> (try intro _) <;> (repeat' apply And.intro) <;> (try intro _) <;> (try intro _) <;> first | trivial | assumption | exact .inr trivial | exact .inr rfl | omega | rfl | exact ⟨_, rfl, rfl⟩ | exact ⟨rfl, rfl⟩ | exact ⟨fun _ => rfl, fun _ => rfl⟩ | (unfold maxLen; omega) | (unfold i64R; first | omega | decide) | decide)
    refine evC_wk (s' := ⟨[(0, 1, Cont.cell (AV.ptr 1 0)), (0, 2, Cont.cell (AV.bool false)), (0, 3, Cont.cell (AV.vs 2)), (1, 0, Cont.cell (AV.int IntKind.i64 c)), (1, 1, Cont.cell (AV.rs 1 no false (nB q))), (1, 2, Cont.cell (AV.rs 1 n false (nI w))), (1, 3, Cont.cell (AV.rs 1 m false (nI x))), (1, 4, Cont.top), (2, 0, .vec 1 3 n (nI w))], 3, 104⟩) _ (wk_go [1, 65] rfl (by decide) rfl rfl ⟨⟨_, rfl, rfl⟩, ⟨_, rfl, rfl⟩, ⟨_, rfl, rfl⟩, ⟨_, rfl, rfl⟩, ⟨_, rfl, rfl⟩, ⟨_, rfl, rfl⟩, ⟨_, rfl, rfl⟩, ⟨_, rfl, trivial⟩, ⟨_, rfl, ?_⟩, trivial⟩) ?_
    · exact ⟨rfl, rfl, Nat.zero_add n, fun j hj => catF_ge (Nat.zero_le _)⟩
    refine evC_go (dec := []) (ks := [(0, 1), (0, 2), (0, 3), (0, 4), (0, 5), (0, 6), (1, 0), (1, 1), (1, 2), (1, 3), (1, 4), (2, 0), (67, 0), (68, 0)]) (ps := [(∀ (i : Nat), i < no → nB q i = nB (G (nB q)) i) ∧ (∀ (i : Nat), i < n → nI w i = nI (W (nI w)) i) ∧ (∀ (i : Nat), i < m → nI x i = nI (W (nI x)) i) ∧ no ≤ maxLen ∧ n ≤ maxLen ∧ m ≤ maxLen]) (s' := ⟨[(0, 1, Cont.cell (AV.ptr 1 0)), (0, 2, Cont.cell (AV.bool false)), (0, 3, Cont.cell (AV.vs 2)), (0, 4, Cont.cell (AV.vs 67)), (0, 5, Cont.cell (AV.vs 68)), (0, 6, Cont.cell (AV.int IntKind.i64 (chkF c no n m (W (nI w)) (W (nI x))))), (1, 0, Cont.cell (AV.int IntKind.i64 c)), (1, 1, Cont.cell (AV.rs 1 no false (nB q))), (1, 2, Cont.cell (AV.rs 1 n false (nI w))), (1, 3, Cont.cell (AV.rs 1 m false (nI x))), (1, 4, Cont.top), (2, 0, Cont.vec 1 3 n (nI w)), (67, 0, Cont.vec 1 3 (errN (chkF c no n m (W (nI w)) (W (nI x))) n) (nI (Prod.fst (setF (G (nB q)) (W (nI x)) n (W (nI w)))))), (68, 0, Cont.vec 1 4 (errN (chkF c no n m (W (nI w)) (W (nI x))) n) (nB (Prod.snd (setF (G (nB q)) (W (nI x)) n (W (nI w))))))], 131, 104⟩) (by kernel_rfl) (by kernel_rfl) ?_ ?_
    · (simp only [All]; (repeat' apply And.intro) <;> (try intro _) <;> (try intro _) <;> (repeat' apply And.intro) <;> (try intro _) <;> (try intro _) <;> first | trivial | assumption | exact .inr trivial | exact .inr rfl | omega | rfl | exact ⟨_, rfl, rfl⟩ | exact ⟨rfl, rfl⟩ | exact ⟨fun _ => rfl, fun _ => rfl⟩ | (unfold maxLen; omega) | (unfold i64R; first | omega | decide) | decide)
    rw [W_nI w, W_nI x, G_nB q]
    refine evC_seq ?_
    refine evC_go (dec := []) (ks := [(0, 1), (0, 2), (0, 3), (0, 4), (0, 5), (0, 6), (0, 7), (1, 0), (1, 1), (1, 2), (1, 3), (1, 4), (2, 0), (67, 0), (68, 0)]) (ps := [(∀ (i : Nat), i < no → nB q i = nB (G (nB q)) i) ∧ (∀ (i : Nat), i < n → nI w i = nI (W (nI w)) i) ∧ (∀ (i : Nat), i < m → nI x i = nI (W (nI x)) i) ∧ no ≤ maxLen ∧ n ≤ maxLen ∧ m ≤ maxLen]) (s' := ⟨[(0, 1, Cont.cell (AV.ptr 1 0)), (0, 2, Cont.cell (AV.bool false)), (0, 3, Cont.cell (AV.vs 2)), (0, 4, Cont.cell (AV.vs 67)), (0, 5, Cont.cell (AV.vs 68)), (0, 6, Cont.cell (AV.int IntKind.i64 (chkF c no n m w x))), (0, 7, Cont.cell (AV.int IntKind.i64 (chkF c no n m (W (nI w)) (W (nI x))))), (1, 0, Cont.cell (AV.int IntKind.i64 c)), (1, 1, Cont.cell (AV.rs 1 no false (nB q))), (1, 2, Cont.cell (AV.rs 1 n false (nI w))), (1, 3, Cont.cell (AV.rs 1 m false (nI x))), (1, 4, Cont.top), (2, 0, Cont.vec 1 3 n (nI w)), (67, 0, Cont.vec 1 3 (errN (chkF c no n m w x) n) (nI (Prod.fst (setF q x n w)))), (68, 0, Cont.vec 1 4 (errN (chkF c no n m w x) n) (nB (Prod.snd (setF q x n w))))], 211, 104⟩) (by kernel_rfl) (by kernel_rfl) ?_ ?_
    · (simp only [All]; (repeat' apply And.intro) <;> (try intro _) <;> (try intro _) <;> (repeat' apply And.intro) <;> (try intro _) <;> (try intro _) <;> first | trivial | assumption | exact .inr trivial | exact .inr rfl | omega | rfl | exact ⟨_, rfl, rfl⟩ | exact ⟨rfl, rfl⟩ | exact ⟨fun _ => rfl, fun _ => rfl⟩ | (unfold maxLen; omega) | (unfold i64R; first | omega | decide) | decide)
    rw [W_nI w, W_nI x]
    refine evC_go0 (dec := []) (ks := [(0, 1), (0, 2), (0, 3), (0, 4), (0, 5), (0, 6), (0, 7), (0, 40), (1, 0), (1, 1), (1, 2), (1, 3), (1, 4), (2, 0), (67, 0), (68, 0)]) (s' := ⟨[(0, 1, Cont.cell (AV.ptr 1 0)), (0, 2, Cont.cell (AV.bool false)), (0, 3, Cont.cell (AV.vs 2)), (0, 4, Cont.cell (AV.vs 67)), (0, 5, Cont.cell (AV.vs 68)), (0, 6, Cont.cell (AV.int IntKind.i64 (chkF c no n m w x))), (0, 7, Cont.cell (AV.int IntKind.i64 (chkF c no n m w x))), (0, 40, Cont.cell (AV.bool (chkF c no n m w x != 0))), (1, 0, Cont.cell (AV.int IntKind.i64 c)), (1, 1, Cont.cell (AV.rs 1 no false (nB q))), (1, 2, Cont.cell (AV.rs 1 n false (nI w))), (1, 3, Cont.cell (AV.rs 1 m false (nI x))), (1, 4, Cont.top), (2, 0, Cont.vec 1 3 n (nI w)), (67, 0, Cont.vec 1 3 (errN (chkF c no n m w x) n) (nI (Prod.fst (setF q x n w)))), (68, 0, Cont.vec 1 4 (errN (chkF c no n m w x) n) (nB (Prod.snd (setF q x n w))))], 227, 104⟩) (by kernel_rfl) (by kernel_rfl) ?_
    refine evC_if (q := chkF c no n m w x != 0) (by kernel_rfl) (fun hc => ?_) (fun hc => ?_)
    · rw [errN_no hc]
      refine evC_go0 (dec := []) (ks := [(0, 1), (0, 2), (0, 3), (0, 4), (0, 5), (0, 6), (1, 0), (1, 1), (1, 2), (1, 3), (1, 4), (2, 0), (67, 0), (68, 0)]) (s' := ⟨[(0, 1, Cont.cell (AV.ptr 1 0)), (0, 2, Cont.cell (AV.bool (bif bif bif (↑0 : Int) == 0 then (↑0 : Int) == 0 else false then chkF c no n m w x == chkF c no n m w x else false then true else false))), (0, 3, Cont.cell (AV.vs 2)), (0, 4, Cont.cell (AV.vs 67)), (0, 5, Cont.cell (AV.vs 68)), (0, 6, Cont.cell (AV.int IntKind.i64 (chkF c no n m w x))), (1, 0, Cont.cell (AV.int IntKind.i64 c)), (1, 1, Cont.cell (AV.rs 1 no false (nB q))), (1, 2, Cont.cell (AV.rs 1 n false (nI w))), (1, 3, Cont.cell (AV.rs 1 m false (nI x))), (1, 4, Cont.top), (2, 0, Cont.vec 1 3 n (nI w)), (67, 0, Cont.vec 1 3 0 (nI (Prod.fst (setF q x n w)))), (68, 0, Cont.vec 1 4 0 (nB (Prod.snd (setF q x n w))))], 363, 104⟩) (by kernel_rfl) (by kernel_rfl) ?_
      refine evC_ret ?_
      refine then_ret ?_
      refine post_ret ?_
      refine ends_flat (vs := [AV.bool (bif bif bif 0 == 0 then 0 == 0 else false then chkF c no n m w x == chkF c no n m w x else false then true else false)]) (Nat.zero_lt_succ _) (by kernel_rfl) (flat_of _ (by kernel_rfl)) rfl ?_
      refine congrArg AV.bool ?_
      simp
    · have hz : chkF c no n m w x = 0 := by simpa [bne] using hc
      rw [errN_yes hc, hz]
      clear hc
      have hz2 := chk_zero hz
      refine evC_skip ?_
      refine then_normal ?_
      refine evC_go (dec := []) (ks := [(0, 1), (0, 2), (0, 3), (0, 4), (0, 5), (0, 6), (0, 8), (0, 9), (1, 0), (1, 1), (1, 2), (1, 3), (1, 4), (2, 0), (67, 0), (68, 0), (267, 0), (268, 0)]) (ps := [((∀ (i : Nat), i < no → nB q i = nB (G (nB q)) i) ∧ (∀ (i : Nat), i < n → nI w i = nI (W (nI w)) i) ∧ (∀ (i : Nat), i < m → nI x i = nI (W (nI x)) i) ∧ no ≤ maxLen ∧ n ≤ maxLen ∧ m ≤ maxLen) ∧ ∃ c, chkF c no n m (W (nI w)) (W (nI x)) = (0 : Int)]) (s' := ⟨[(0, 1, Cont.cell (AV.ptr 1 0)), (0, 2, Cont.cell (AV.bool false)), (0, 3, Cont.cell (AV.vs 2)), (0, 4, Cont.cell (AV.vs 67)), (0, 5, Cont.cell (AV.vs 68)), (0, 6, Cont.cell (AV.int IntKind.i64 0)), (0, 8, Cont.cell (AV.vs 267)), (0, 9, Cont.cell (AV.vs 268)), (1, 0, Cont.cell (AV.int IntKind.i64 c)), (1, 1, Cont.cell (AV.rs 1 no false (nB q))), (1, 2, Cont.cell (AV.rs 1 n false (nI w))), (1, 3, Cont.cell (AV.rs 1 m false (nI x))), (1, 4, Cont.top), (2, 0, Cont.vec 1 3 n (nI w)), (67, 0, Cont.vec 1 3 n (nI (Prod.fst (setF q x n w)))), (68, 0, Cont.vec 1 4 n (nB (Prod.snd (setF q x n w)))), (267, 0, Cont.vec 1 3 n (nI (Prod.fst (setF (G (nB q)) (W (nI x)) n (W (nI w)))))), (268, 0, Cont.vec 1 4 n (nB (Prod.snd (setF (G (nB q)) (W (nI x)) n (W (nI w))))))], 315, 104⟩) (by kernel_rfl) (by kernel_rfl) ?_ ?_
      · refine ⟨⟨fun _ _ => rfl, fun _ _ => rfl, fun _ _ => rfl, ?_, ?_, ?_⟩, c, hz⟩ <;> (unfold maxLen; omega)
      rw [W_nI w, W_nI x, G_nB q]
      refine evC_seq ?_
      refine evC_go (dec := []) (ks := [(0, 2), (0, 5), (0, 9), (0, 87), (68, 0), (268, 0)]) (ps := [(∀ (i : Nat), i < n → nI (Prod.fst (setF q x n w)) i = nI (W (nI (Prod.fst (setF q x n w)))) i) ∧ (∀ (i : Nat), i < n → nI (Prod.fst (setF q x n w)) i = nI (W (nI (Prod.fst (setF q x n w)))) i) ∧ n ≤ maxLen ∧ n ≤ maxLen, List.all [!bif bif !sameF n n (W (nI (Prod.fst (setF q x n w)))) (W (nI (Prod.fst (setF q x n w)))) then true else (↑n : Int) != (↑n : Int) then true else (0 : Int) != (0 : Int)] id = true → (∀ (i : Nat), i < n → nI w i = nI (W (nI w)) i) ∧ (∀ (i : Nat), i < n → nI w i = nI (W (nI w)) i) ∧ n ≤ maxLen ∧ n ≤ maxLen]) (s' := ⟨[(0, 2, Cont.cell (AV.bool false)), (0, 5, Cont.cell (AV.vs 68)), (0, 9, Cont.cell (AV.vs 268)), (0, 87, Cont.cell (AV.bool (bif bif bif !sameF n n (W (nI (Prod.fst (setF q x n w)))) (W (nI (Prod.fst (setF q x n w)))) then true else (↑n : Int) != (↑n : Int) then true else 0 != 0 then true else !sameF n n (W (nI w)) (W (nI w))))), (68, 0, Cont.vec 1 4 n (nB (Prod.snd (setF q x n w)))), (268, 0, Cont.vec 1 4 n (nB (Prod.snd (setF q x n w))))], 491, 104⟩) (by kernel_rfl) (by kernel_rfl) ?_ ?_
      · (simp only [All]; (repeat' apply And.intro) <;> (try intro _) <;> (try intro _) <;> (repeat' apply And.intro) <;> (try intro _) <;> (try intro _) <;> first | trivial | assumption | exact .inr trivial | exact .inr rfl | omega | rfl | exact ⟨_, rfl, rfl⟩ | exact ⟨rfl, rfl⟩ | exact ⟨fun _ => rfl, fun _ => rfl⟩ | (unfold maxLen; omega) | (unfold i64R; first | omega | decide) | decide)
      have e1 : ∀ w : Nat → Int, sameF n n w w = true := fun w => by
        unfold sameF; rw [all_true fun i _ => by simp]; simp
      rw [W_nI w, W_nI (setF q x n w).1, e1, e1]
      refine evC_if (q := bif bif bif !true then true else (↑n : Int) != (↑n : Int) then true else 0 != 0 then true else !true) (by kernel_rfl) (fun hc => ?_) (fun hc => ?_)
      · simp at hc
      clear hc
      refine evC_skip ?_
      refine then_normal ?_
      refine evC_seq ?_
      refine evC_go0 (dec := []) (ks := [(0, 2), (0, 5), (0, 9), (0, 10), (68, 0), (268, 0)]) (s' := ⟨[(0, 2, Cont.cell (AV.bool false)), (0, 5, Cont.cell (AV.vs 68)), (0, 9, Cont.cell (AV.vs 268)), (0, 10, Cont.cell (AV.int IntKind.i64 0)), (68, 0, Cont.vec 1 4 n (nB (Prod.snd (setF q x n w)))), (268, 0, Cont.vec 1 4 n (nB (Prod.snd (setF q x n w))))], 499, 104⟩) (by kernel_rfl) (by kernel_rfl) ?_
      refine evC_block ?_
      refine evC_loop (ι := { i : Nat // i ≤ n }) (fun y => ⟨[(0, 2, Cont.cell (AV.bool false)), (0, 5, Cont.cell (AV.vs 1)), (0, 9, Cont.cell (AV.vs 2)), (0, 10, .cell (.int .i64 (y.1 : Nat))), (1, 0, Cont.vec 1 4 n (nB (Prod.snd (setF q x n w)))), (2, 0, Cont.vec 1 4 n (nB (Prod.snd (setF q x n w))))], 3, 104⟩) (fun y => n - y.1) ⟨0, Nat.zero_le _⟩ (wk_go [68, 268] rfl (by decide) rfl rfl ⟨⟨_, rfl, rfl⟩, ⟨_, rfl, rfl⟩, ⟨_, rfl, rfl⟩, ⟨_, rfl, rfl⟩, ⟨_, rfl, rfl, rfl, rfl, fun _ _ => rfl⟩, ⟨_, rfl, rfl, rfl, rfl, fun _ _ => rfl⟩, trivial⟩) ?_
      rintro ⟨i, hi⟩
      refine evC_seq ?_
      refine evC_go0 (dec := []) (ks := [(0, 2), (0, 5), (0, 9), (0, 10), (0, 91), (1, 0), (2, 0)]) (s' := ⟨[(0, 2, Cont.cell (AV.bool false)), (0, 5, Cont.cell (AV.vs 1)), (0, 9, Cont.cell (AV.vs 2)), (0, 10, Cont.cell (AV.int IntKind.i64 (↑i : Int))), (0, 91, Cont.cell (AV.bool (decide ((↑i : Int) < (↑n : Int))))), (1, 0, Cont.vec 1 4 n (nB (Prod.snd (setF q x n w)))), (2, 0, Cont.vec 1 4 n (nB (Prod.snd (setF q x n w))))], 35, 104⟩) (by kernel_rfl) (by kernel_rfl) ?_
      refine evC_if (q := decide ((↑i : Int) < (↑n : Int))) (by kernel_rfl) (fun hc => ?_) (fun hc => ?_)
      · have hlt : i < n := by have := of_decide_eq_true hc; omega
        clear hc
        refine evC_skip ?_
        refine then_normal ?_
        refine evC_seq ?_
        refine evC_block ?_
        refine evC_go (dec := []) (ks := [(0, 2), (0, 5), (0, 9), (0, 10), (0, 102), (1, 0), (2, 0)]) (ps := [(0 : Int) ≤ (↑i : Int), (↑i : Int) < (↑n : Int), (1 : Nat) = (1 : Nat), (0 : Int) ≤ (↑i : Int), (↑i : Int) < (↑n : Int), (1 : Nat) = (1 : Nat), (0 : Int) ≤ (↑i : Int), (↑i : Int) < (↑n : Int), (1 : Nat) = (1 : Nat), (0 : Int) ≤ (↑i : Int), (↑i : Int) < (↑n : Int), (1 : Nat) = (1 : Nat)]) (s' := ⟨[(0, 2, Cont.cell (AV.bool false)), (0, 5, Cont.cell (AV.vs 1)), (0, 9, Cont.cell (AV.vs 2)), (0, 10, Cont.cell (AV.int IntKind.i64 (↑i : Int))), (0, 102, Cont.cell (AV.bool !Prod.snd (setF q x n w) i == Prod.snd (setF q x n w) i)), (1, 0, Cont.vec 1 4 n (nB (Prod.snd (setF q x n w)))), (2, 0, Cont.vec 1 4 n (nB (Prod.snd (setF q x n w))))], 107, 104⟩) (by kernel_rfl) (by kernel_rfl) ?_ ?_
        · (simp only [All]; (repeat' apply And.intro) <;> (try intro _) <;> (try intro _) <;> (repeat' apply And.intro) <;> (try intro _) <;> (try intro _) <;> first | trivial | assumption | exact .inr trivial | exact .inr rfl | omega | rfl | exact ⟨_, rfl, rfl⟩ | exact ⟨rfl, rfl⟩ | exact ⟨fun _ => rfl, fun _ => rfl⟩ | (unfold maxLen; omega) | (unfold i64R; first | omega | decide) | decide)
        refine evC_if (q := !Prod.snd (setF q x n w) i == Prod.snd (setF q x n w) i) (by kernel_rfl) (fun hc => ?_) (fun hc => ?_)
        · simp at hc
        refine evC_skip ?_
        refine block_normal ?_
        refine then_normal ?_
        refine evC_goL0 (dec := []) (ks := [(0, 2), (0, 5), (0, 9), (0, 10), (1, 0), (2, 0)]) (s' := ⟨[(0, 2, Cont.cell (AV.bool false)), (0, 5, Cont.cell (AV.vs 1)), (0, 9, Cont.cell (AV.vs 2)), (0, 10, Cont.cell (AV.int IntKind.i64 (IntKind.i64.wrap ((↑i : Int) + 1)))), (1, 0, Cont.vec 1 4 n (nB (Prod.snd (setF q x n w)))), (2, 0, Cont.vec 1 4 n (nB (Prod.snd (setF q x n w))))], 131, 104⟩) (by kernel_rfl) (by kernel_rfl) ?_
        rw [wrap_add_one hlt (by omega)]
        refine round_normal (⟨i + 1, by omega⟩) (wk_go [1, 2] rfl (by decide) rfl rfl ⟨⟨_, rfl, rfl⟩, ⟨_, rfl, rfl⟩, ⟨_, rfl, rfl⟩, ⟨_, rfl, rfl⟩, ⟨_, rfl, ⟨rfl, rfl, rfl, fun _ _ => rfl⟩⟩, ⟨_, rfl, ⟨rfl, rfl, rfl, fun _ _ => rfl⟩⟩, trivial⟩) ?_
        show n - (i + 1) < n - i; omega
      · refine evC_exit ?_
        refine then_exit ?_
        refine round_exit ?_
        refine block_exit ?_
        refine then_normal ?_
        refine evC_go0 (dec := []) (ks := [(0, 2)]) (s' := ⟨[(0, 2, Cont.cell (AV.bool true))], 51, 104⟩) (by kernel_rfl) (by kernel_rfl) ?_
        refine evC_ret ?_
        refine post_ret ?_
        refine ends_flat (vs := [AV.bool true]) (Nat.zero_lt_succ _) (by kernel_rfl) (flat_of _ (by kernel_rfl)) rfl ?_
        rfl
  · cases e

def sCrowdHeld : Spec := fun args _ _ => match args with
  | [.agg [.int .i64 c, .rs 1 no false g, .rs 1 n false f, .rs 1 m false f2]] => some ⟨[(g = nB (G g) ∧ f = nI (W f) ∧ f2 = nI (W f2)) ∧ no ≤ maxLen ∧ n ≤ maxLen ∧ m ≤ maxLen], .bool true, [], []⟩
  | _ => none
theorem crowdHeld_ok : SpecOK Try.prog 7 sCrowdHeld := by
  refine spec_own (by kernel_rfl) T_ok (sget_cons few_ok (sget_cons held_ok (sget_cons refCheck_ok (sget_cons refHeld_ok (sget_cons same_ok (sget_cons awake_ok sget_nil)))))) Try.func7 rfl rfl fun args hr nb out e => ?_
  unfold sCrowdHeld at e
  split at e
  · rename_i c no g n f m f2
    injection e with e; subst e
    refine ⟨(fun _ h => nomatch h), true, [crowd c no (G g) n (W f) m (W f2)], rfl, fun hs => ?_⟩
    obtain ⟨⟨h0, h1, h2⟩, h3, h4, h5⟩ := hs _ List.mem_cons_self
    rw [crowd_eq (r := fun _ => True) h0 h1 h2]
    refine ⟨.cons _ _ _ _ (.same _ _ (crowd_has _ _ _ _ _ _ _)) .nil, ?_⟩
    clear hs h0 h1 h2
    generalize W f = w
    generalize W f2 = x
    generalize G g = q
    have k1 := cut_le no 4100
    have k2 := cut_le n 66
    have k3 := cut_le m 66
    unfold crowd
    refine evC_go0 (dec := []) (ks := [(0, 1), (0, 2), (1, 0), (1, 1), (1, 2), (1, 3), (1, 4)]) (s' := ⟨[(0, 1, Cont.cell (AV.ptr 1 0)), (0, 2, Cont.cell (AV.bool false)), (1, 0, Cont.cell (AV.int IntKind.i64 c)), (1, 1, Cont.cell (AV.rs 1 no false (nB q))), (1, 2, Cont.cell (AV.rs 1 n false (nI w))), (1, 3, Cont.cell (AV.rs 1 m false (nI x))), (1, 4, Cont.top)], 17, 58⟩) (by kernel_rfl) (by kernel_rfl) ?_
    refine evC_go (dec := []) (ks := [(0, 1), (0, 2), (1, 0), (1, 1), (1, 2), (1, 3), (1, 4)]) (ps := [(nB q = nB (G (nB q)) ∧ nI w = nI (W (nI w)) ∧ nI x = nI (W (nI x))) ∧ no ≤ maxLen ∧ n ≤ maxLen ∧ m ≤ maxLen]) (s' := ⟨[(0, 1, Cont.cell (AV.ptr 1 0)), (0, 2, Cont.cell (AV.bool false)), (1, 0, Cont.cell (AV.int IntKind.i64 c)), (1, 1, Cont.cell (AV.rs 1 (cut no 4100) false (nB (G (nB q))))), (1, 2, Cont.cell (AV.rs 1 (cut n 66) false (nI (W (nI w))))), (1, 3, Cont.cell (AV.rs 1 (cut m 66) false (nI (W (nI x))))), (1, 4, Cont.top)], 41, 58⟩) (by kernel_rfl) (by kernel_rfl) ?_ ?_
    · exact ⟨⟨rfl, rfl, rfl⟩, h3, h4, h5⟩
    unfold maxLen at h3 h4 h5
    rw [W_nI w, W_nI x, G_nB q]
    generalize cut no 4100 = no at *
    generalize cut n 66 = n at *
    generalize cut m 66 = m at *
    refine evC_go (dec := []) (ks := [(0, 1), (0, 2), (0, 3), (0, 4), (1, 0), (1, 1), (1, 2), (1, 3), (1, 4), (105, 0)]) (ps := [(∀ (i : Nat), i < no → nB q i = nB (G (nB q)) i) ∧ (∀ (i : Nat), i < n → nI w i = nI (W (nI w)) i) ∧ (∀ (i : Nat), i < m → nI x i = nI (W (nI x)) i) ∧ no ≤ maxLen ∧ n ≤ maxLen ∧ m ≤ maxLen]) (s' := ⟨[(0, 1, Cont.cell (AV.ptr 1 0)), (0, 2, Cont.cell (AV.bool false)), (0, 3, Cont.cell (AV.vs 105)), (0, 4, Cont.cell (AV.int IntKind.i64 (chkF c no n m (W (nI w)) (W (nI x))))), (1, 0, Cont.cell (AV.int IntKind.i64 c)), (1, 1, Cont.cell (AV.rs 1 no false (nB q))), (1, 2, Cont.cell (AV.rs 1 n false (nI w))), (1, 3, Cont.cell (AV.rs 1 m false (nI x))), (1, 4, Cont.top), (105, 0, Cont.vec 1 3 (errN (chkF c no n m (W (nI w)) (W (nI x))) (List.length (heldL (G (nB q)) (W (nI x)) n (W (nI w)) n))) (lst (heldL (G (nB q)) (W (nI x)) n (W (nI w)) n)))], 153, 58⟩) (by kernel_rfl) (by kernel_rfl) ?_ ?_
    · (simp only [All]; (repeat' apply And.intro) <;> (try intro _) <;> (try intro _) <;> (repeat' apply And.intro) <;> (try intro _) <;> (try intro _) <;> first | trivial | assumption | exact .inr trivial | exact .inr rfl | omega | rfl | exact ⟨_, rfl, rfl⟩ | exact ⟨rfl, rfl⟩ | exact ⟨fun _ => rfl, fun _ => rfl⟩ | (unfold maxLen; omega) | (unfold i64R; first | omega | decide) | decide)
    rw [W_nI w, W_nI x, G_nB q]
    refine evC_seq ?_
    refine evC_go (dec := []) (ks := [(0, 1), (0, 2), (0, 3), (0, 4), (0, 5), (1, 0), (1, 1), (1, 2), (1, 3), (1, 4), (105, 0)]) (ps := [(∀ (i : Nat), i < no → nB q i = nB (G (nB q)) i) ∧ (∀ (i : Nat), i < n → nI w i = nI (W (nI w)) i) ∧ (∀ (i : Nat), i < m → nI x i = nI (W (nI x)) i) ∧ no ≤ maxLen ∧ n ≤ maxLen ∧ m ≤ maxLen]) (s' := ⟨[(0, 1, Cont.cell (AV.ptr 1 0)), (0, 2, Cont.cell (AV.bool false)), (0, 3, Cont.cell (AV.vs 105)), (0, 4, Cont.cell (AV.int IntKind.i64 (chkF c no n m w x))), (0, 5, Cont.cell (AV.int IntKind.i64 (chkF c no n m (W (nI w)) (W (nI x))))), (1, 0, Cont.cell (AV.int IntKind.i64 c)), (1, 1, Cont.cell (AV.rs 1 no false (nB q))), (1, 2, Cont.cell (AV.rs 1 n false (nI w))), (1, 3, Cont.cell (AV.rs 1 m false (nI x))), (1, 4, Cont.top), (105, 0, Cont.vec 1 3 (errN (chkF c no n m w x) (List.length (heldL q x n w n))) (lst (heldL q x n w n)))], 233, 58⟩) (by kernel_rfl) (by kernel_rfl) ?_ ?_
    · (simp only [All]; (repeat' apply And.intro) <;> (try intro _) <;> (try intro _) <;> (repeat' apply And.intro) <;> (try intro _) <;> (try intro _) <;> first | trivial | assumption | exact .inr trivial | exact .inr rfl | omega | rfl | exact ⟨_, rfl, rfl⟩ | exact ⟨rfl, rfl⟩ | exact ⟨fun _ => rfl, fun _ => rfl⟩ | (unfold maxLen; omega) | (unfold i64R; first | omega | decide) | decide)
    rw [W_nI w, W_nI x]
    refine evC_go0 (dec := []) (ks := [(0, 1), (0, 2), (0, 3), (0, 4), (0, 5), (0, 30), (1, 0), (1, 1), (1, 2), (1, 3), (1, 4), (105, 0)]) (s' := ⟨[(0, 1, Cont.cell (AV.ptr 1 0)), (0, 2, Cont.cell (AV.bool false)), (0, 3, Cont.cell (AV.vs 105)), (0, 4, Cont.cell (AV.int IntKind.i64 (chkF c no n m w x))), (0, 5, Cont.cell (AV.int IntKind.i64 (chkF c no n m w x))), (0, 30, Cont.cell (AV.bool (chkF c no n m w x != 0))), (1, 0, Cont.cell (AV.int IntKind.i64 c)), (1, 1, Cont.cell (AV.rs 1 no false (nB q))), (1, 2, Cont.cell (AV.rs 1 n false (nI w))), (1, 3, Cont.cell (AV.rs 1 m false (nI x))), (1, 4, Cont.top), (105, 0, Cont.vec 1 3 (errN (chkF c no n m w x) (List.length (heldL q x n w n))) (lst (heldL q x n w n)))], 249, 58⟩) (by kernel_rfl) (by kernel_rfl) ?_
    refine evC_if (q := chkF c no n m w x != 0) (by kernel_rfl) (fun hc => ?_) (fun hc => ?_)
    · rw [errN_no hc]
      refine evC_go0 (dec := []) (ks := [(0, 1), (0, 2), (0, 3), (0, 4), (1, 0), (1, 1), (1, 2), (1, 3), (1, 4), (105, 0)]) (s' := ⟨[(0, 1, Cont.cell (AV.ptr 1 0)), (0, 2, Cont.cell (AV.bool (bif bif (↑0 : Int) == 0 then chkF c no n m w x == chkF c no n m w x else false then true else false))), (0, 3, Cont.cell (AV.vs 105)), (0, 4, Cont.cell (AV.int IntKind.i64 (chkF c no n m w x))), (1, 0, Cont.cell (AV.int IntKind.i64 c)), (1, 1, Cont.cell (AV.rs 1 no false (nB q))), (1, 2, Cont.cell (AV.rs 1 n false (nI w))), (1, 3, Cont.cell (AV.rs 1 m false (nI x))), (1, 4, Cont.top), (105, 0, Cont.vec 1 3 0 (lst (heldL q x n w n)))], 345, 58⟩) (by kernel_rfl) (by kernel_rfl) ?_
      refine evC_ret ?_
      refine then_ret ?_
      refine post_ret ?_
      refine ends_flat (vs := [AV.bool (bif bif 0 == 0 then chkF c no n m w x == chkF c no n m w x else false then true else false)]) (Nat.zero_lt_succ _) (by kernel_rfl) (flat_of _ (by kernel_rfl)) rfl ?_
      refine congrArg AV.bool ?_
      simp
    · have hz : chkF c no n m w x = 0 := by simpa [bne] using hc
      rw [errN_yes hc, hz]
      clear hc
      have hl := heldL_len q x n w n
      have hz2 := chk_zero hz
      have e1 : ∀ (k : Nat) (w : Nat → Int), sameF k k w w = true := fun k w => by
        unfold sameF; rw [all_true fun i _ => by simp]; simp
      refine evC_skip ?_
      refine then_normal ?_
      refine evC_go (dec := []) (ks := [(0, 2)]) (ps := [((∀ (i : Nat), i < no → nB q i = nB (G (nB q)) i) ∧ (∀ (i : Nat), i < n → nI w i = nI (W (nI w)) i) ∧ (∀ (i : Nat), i < m → nI x i = nI (W (nI x)) i) ∧ no ≤ maxLen ∧ n ≤ maxLen ∧ m ≤ maxLen) ∧ ∃ c, chkF c no n m (W (nI w)) (W (nI x)) = (0 : Int), (∀ (i : Nat), i < List.length (heldL q x n w n) → lst (heldL q x n w n) i = nI (W (lst (heldL q x n w n))) i) ∧ (∀ (i : Nat), i < List.length (heldL (G (nB q)) (W (nI x)) n (W (nI w)) n) → lst (heldL (G (nB q)) (W (nI x)) n (W (nI w)) n) i = nI (W (lst (heldL (G (nB q)) (W (nI x)) n (W (nI w)) n))) i) ∧ List.length (heldL q x n w n) ≤ maxLen ∧ List.length (heldL (G (nB q)) (W (nI x)) n (W (nI w)) n) ≤ maxLen]) (s' := ⟨[(0, 2, Cont.cell (AV.bool (bif bif sameF (List.length (heldL q x n w n)) (List.length (heldL (G (nB q)) (W (nI x)) n (W (nI w)) n)) (W (lst (heldL q x n w n))) (W (lst (heldL (G (nB q)) (W (nI x)) n (W (nI w)) n))) then 0 == 0 else false then true else false)))], 385, 58⟩) (by kernel_rfl) (by kernel_rfl) ?_ ?_
      · simp only [All]
        repeat' apply And.intro
        all_goals first | exact fun _ _ => rfl | (unfold maxLen; omega) | exact ⟨c, hz⟩ | trivial | (exact (show (heldL q x n w n).length ≤ maxLen by unfold maxLen; omega))
      refine evC_ret ?_
      refine post_ret ?_
      refine ends_flat (vs := [AV.bool (bif bif sameF (List.length (heldL q x n w n)) (List.length (heldL (G (nB q)) (W (nI x)) n (W (nI w)) n)) (W (lst (heldL q x n w n))) (W (lst (heldL (G (nB q)) (W (nI x)) n (W (nI w)) n))) then 0 == 0 else false then true else false)]) (Nat.zero_lt_succ _) (by kernel_rfl) (flat_of _ (by kernel_rfl)) rfl ?_
      refine congrArg AV.bool ?_
      rw [W_nI w, W_nI x, G_nB q, e1]
      rfl
  · cases e
end Go.Eng.S15
