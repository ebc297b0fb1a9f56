/- Seat 15: the laws CrowdApart and CrowdStill, walked. -/
import Derived.Test.YtfpconjpgaddkaaEngX
import Derived.Test.YtfpconjpgaddkaaS15C
set_option linter.unusedSimpArgs false
set_option linter.unusedVariables false
namespace Go.Eng.S15
open Go.Proofs Go.IntWalk
set_option maxRecDepth 10000
theorem occ_succ (k : Nat) (w : Nat → Int) (c : Int) : occ (k + 1) w c = (occ k w c || w k == c) := by
  unfold occ; rw [List.range_succ, List.any_append]; simp

def sCrowdApart : Spec := fun args _ _ => match args with
  | [.agg [.int .i64 c, .rs 1 no false g, .rs 1 n false f, .rs 1 m false f2]] => some ⟨[(g = nB (G g) ∧ f = nI (W f) ∧ f2 = nI (W f2)) ∧ no ≤ maxLen ∧ n ≤ maxLen ∧ m ≤ maxLen], .bool true, [], []⟩
  | _ => none
theorem crowdApart_ok : SpecOK Try.prog 5 sCrowdApart := by
  refine spec_own (by kernel_rfl) T_ok (sget_cons few_ok (sget_cons settle_ok (sget_cons awake_ok sget_nil))) Try.func5 rfl rfl fun args hr nb out e => ?_
  unfold sCrowdApart at e
  split at e
  · rename_i c no g n f m f2
    injection e with e; subst e
    refine ⟨(fun _ h => nomatch h), true, [crowd c no (G g) n (W f) m (W f2)], rfl, fun hs => ?_⟩
    obtain ⟨⟨h0, h1, h2⟩, h3, h4, h5⟩ := hs _ List.mem_cons_self
    rw [crowd_eq (r := fun _ => True) h0 h1 h2]
    refine ⟨.cons _ _ _ _ (.same _ _ (crowd_has _ _ _ _ _ _ _)) .nil, ?_⟩
    clear hs h0 h1 h2
    generalize W f = w
    generalize W f2 = x
    generalize G g = q
    have k1 := cut_le no 4100
    have k2 := cut_le n 66
    have k3 := cut_le m 66
    unfold crowd
    refine evC_go0 (dec := []) (ks := [(0, 1), (0, 2), (1, 0), (1, 1), (1, 2), (1, 3), (1, 4)]) (s' := ⟨[(0, 1, Cont.cell (AV.ptr 1 0)), (0, 2, Cont.cell (AV.bool false)), (1, 0, Cont.cell (AV.int IntKind.i64 c)), (1, 1, Cont.cell (AV.rs 1 no false (nB q))), (1, 2, Cont.cell (AV.rs 1 n false (nI w))), (1, 3, Cont.cell (AV.rs 1 m false (nI x))), (1, 4, Cont.top)], 17, 191⟩) (by kernel_rfl) (by kernel_rfl) ?_
    refine evC_go (dec := []) (ks := [(0, 1), (0, 2), (1, 0), (1, 1), (1, 2), (1, 3), (1, 4)]) (ps := [(nB q = nB (G (nB q)) ∧ nI w = nI (W (nI w)) ∧ nI x = nI (W (nI x))) ∧ no ≤ maxLen ∧ n ≤ maxLen ∧ m ≤ maxLen]) (s' := ⟨[(0, 1, Cont.cell (AV.ptr 1 0)), (0, 2, Cont.cell (AV.bool false)), (1, 0, Cont.cell (AV.int IntKind.i64 c)), (1, 1, Cont.cell (AV.rs 1 (cut no 4100) false (nB (G (nB q))))), (1, 2, Cont.cell (AV.rs 1 (cut n 66) false (nI (W (nI w))))), (1, 3, Cont.cell (AV.rs 1 (cut m 66) false (nI (W (nI x))))), (1, 4, Cont.top)], 41, 191⟩) (by kernel_rfl) (by kernel_rfl) ?_ ?_
    · exact ⟨⟨rfl, rfl, rfl⟩, h3, h4, h5⟩
    unfold maxLen at h3 h4 h5
    rw [W_nI w, W_nI x, G_nB q]
    generalize cut no 4100 = no at *
    generalize cut n 66 = n at *
    generalize cut m 66 = m at *
    refine evC_go (dec := []) (ks := [(0, 1), (0, 2), (0, 3), (0, 4), (0, 5), (1, 0), (1, 1), (1, 2), (1, 3), (1, 4), (105, 0), (106, 0)]) (ps := [(∀ (i : Nat), i < no → nB q i = nB (G (nB q)) i) ∧ (∀ (i : Nat), i < n → nI w i = nI (W (nI w)) i) ∧ (∀ (i : Nat), i < m → nI x i = nI (W (nI x)) i) ∧ no ≤ maxLen ∧ n ≤ maxLen ∧ m ≤ maxLen]) (s' := ⟨[(0, 1, Cont.cell (AV.ptr 1 0)), (0, 2, Cont.cell (AV.bool false)), (0, 3, Cont.cell (AV.vs 105)), (0, 4, Cont.cell (AV.vs 106)), (0, 5, Cont.cell (AV.int IntKind.i64 (chkF c no n m (W (nI w)) (W (nI x))))), (1, 0, Cont.cell (AV.int IntKind.i64 c)), (1, 1, Cont.cell (AV.rs 1 no false (nB q))), (1, 2, Cont.cell (AV.rs 1 n false (nI w))), (1, 3, Cont.cell (AV.rs 1 m false (nI x))), (1, 4, Cont.top), (105, 0, Cont.vec 1 3 (errN (chkF c no n m (W (nI w)) (W (nI x))) n) (nI (Prod.fst (setF (G (nB q)) (W (nI x)) n (W (nI w)))))), (106, 0, Cont.vec 1 4 (errN (chkF c no n m (W (nI w)) (W (nI x))) n) (nB (Prod.snd (setF (G (nB q)) (W (nI x)) n (W (nI w))))))], 169, 191⟩) (by kernel_rfl) (by kernel_rfl) ?_ ?_
    · (simp only [All]; (repeat' apply And.intro) <;> (try intro _) <;> (try intro _) <;> (repeat' apply And.intro) <;> (try intro _) <;> (try intro _) <;> first | trivial | assumption | exact .inr trivial | exact .inr rfl | omega | rfl | exact ⟨_, rfl, rfl⟩ | exact ⟨rfl, rfl⟩ | exact ⟨fun _ => rfl, fun _ => rfl⟩ | (unfold maxLen; omega) | (unfold i64R; first | omega | decide) | decide)
    rw [W_nI w, W_nI x, G_nB q]
    refine evC_seq ?_
    refine evC_go0 (dec := []) (ks := [(0, 1), (0, 2), (0, 3), (0, 4), (0, 26), (1, 0), (1, 1), (1, 2), (1, 3), (1, 4), (105, 0), (106, 0)]) (s' := ⟨[(0, 1, Cont.cell (AV.ptr 1 0)), (0, 2, Cont.cell (AV.bool false)), (0, 3, Cont.cell (AV.vs 105)), (0, 4, Cont.cell (AV.vs 106)), (0, 26, Cont.cell (AV.bool (chkF c no n m w x != 0))), (1, 0, Cont.cell (AV.int IntKind.i64 c)), (1, 1, Cont.cell (AV.rs 1 no false (nB q))), (1, 2, Cont.cell (AV.rs 1 n false (nI w))), (1, 3, Cont.cell (AV.rs 1 m false (nI x))), (1, 4, Cont.top), (105, 0, Cont.vec 1 3 (errN (chkF c no n m w x) n) (nI (Prod.fst (setF q x n w)))), (106, 0, Cont.vec 1 4 (errN (chkF c no n m w x) n) (nB (Prod.snd (setF q x n w))))], 185, 191⟩) (by kernel_rfl) (by kernel_rfl) ?_
    refine evC_if (q := chkF c no n m w x != 0) (by kernel_rfl) (fun hc => ?_) (fun hc => ?_)
    · rw [errN_no hc]
      refine evC_go0 (dec := []) (ks := [(0, 1), (0, 2), (0, 3), (0, 4), (1, 0), (1, 1), (1, 2), (1, 3), (1, 4), (105, 0), (106, 0)]) (s' := ⟨[(0, 1, Cont.cell (AV.ptr 1 0)), (0, 2, Cont.cell (AV.bool true)), (0, 3, Cont.cell (AV.vs 105)), (0, 4, Cont.cell (AV.vs 106)), (1, 0, Cont.cell (AV.int IntKind.i64 c)), (1, 1, Cont.cell (AV.rs 1 no false (nB q))), (1, 2, Cont.cell (AV.rs 1 n false (nI w))), (1, 3, Cont.cell (AV.rs 1 m false (nI x))), (1, 4, Cont.top), (105, 0, Cont.vec 1 3 0 (nI (Prod.fst (setF q x n w)))), (106, 0, Cont.vec 1 4 0 (nB (Prod.snd (setF q x n w))))], 281, 191⟩) (by kernel_rfl) (by kernel_rfl) ?_
      refine evC_ret ?_
      refine then_ret ?_
      refine post_ret ?_
      refine ends_flat (vs := [AV.bool true]) (Nat.zero_lt_succ _) (by kernel_rfl) (flat_of _ (by kernel_rfl)) rfl ?_
      refine congrArg AV.bool ?_
      simp
    · have hz : chkF c no n m w x = 0 := by simpa [bne] using hc
      rw [errN_yes hc]
      clear hc
      obtain ⟨⟨a1, a2, a3, a4, a5⟩, b1, b2⟩ := chk_zero hz
      have hok := setF_ok (q := q) hz
      have hfin := setF_fin (q := q) (x := x) (n := n) w
      generalize setF q x n w = s at *
      subst a5
      refine evC_skip ?_
      refine then_normal ?_
      refine evC_seq ?_
      refine evC_go0 (dec := []) (ks := [(0, 1), (0, 2), (0, 3), (0, 4), (0, 58), (1, 0), (1, 1), (1, 2), (1, 3), (1, 4), (105, 0), (106, 0)]) (s' := ⟨[(0, 1, Cont.cell (AV.ptr 1 0)), (0, 2, Cont.cell (AV.bool false)), (0, 3, Cont.cell (AV.vs 105)), (0, 4, Cont.cell (AV.vs 106)), (0, 58, Cont.cell (AV.bool (bif bif (↑m : Int) != (↑m : Int) then true else (↑m : Int) != (↑m : Int) then true else (↑m : Int) != (↑m : Int)))), (1, 0, Cont.cell (AV.int IntKind.i64 c)), (1, 1, Cont.cell (AV.rs 1 no false (nB q))), (1, 2, Cont.cell (AV.rs 1 m false (nI w))), (1, 3, Cont.cell (AV.rs 1 m false (nI x))), (1, 4, Cont.top), (105, 0, Cont.vec 1 3 m (nI (Prod.fst s))), (106, 0, Cont.vec 1 4 m (nB (Prod.snd s)))], 353, 191⟩) (by kernel_rfl) (by kernel_rfl) ?_
      refine evC_if (q := bif bif (↑m : Int) != (↑m : Int) then true else (↑m : Int) != (↑m : Int) then true else (↑m : Int) != (↑m : Int)) (by kernel_rfl) (fun hc => ?_) (fun hc => ?_)
      · simp at hc
      clear hc
      refine evC_skip ?_
      refine then_normal ?_
      refine evC_seq ?_
      refine evC_go0 (dec := []) (ks := [(0, 1), (0, 2), (0, 3), (0, 4), (0, 6), (1, 0), (1, 1), (1, 2), (1, 3), (1, 4), (105, 0), (106, 0)]) (s' := ⟨[(0, 1, Cont.cell (AV.ptr 1 0)), (0, 2, Cont.cell (AV.bool false)), (0, 3, Cont.cell (AV.vs 105)), (0, 4, Cont.cell (AV.vs 106)), (0, 6, Cont.cell (AV.int IntKind.i64 0)), (1, 0, Cont.cell (AV.int IntKind.i64 c)), (1, 1, Cont.cell (AV.rs 1 no false (nB q))), (1, 2, Cont.cell (AV.rs 1 m false (nI w))), (1, 3, Cont.cell (AV.rs 1 m false (nI x))), (1, 4, Cont.top), (105, 0, Cont.vec 1 3 m (nI (Prod.fst s))), (106, 0, Cont.vec 1 4 m (nB (Prod.snd s)))], 361, 191⟩) (by kernel_rfl) (by kernel_rfl) ?_
      refine evC_block ?_
      refine evC_loop (ι := { i : Nat // i ≤ m }) (fun y => ⟨[(0, 1, Cont.cell (AV.ptr 1 0)), (0, 2, Cont.cell (AV.bool false)), (0, 3, Cont.cell (AV.vs 2)), (0, 4, Cont.cell (AV.vs 3)), (0, 6, .cell (.int .i64 (y.1 : Nat))), (1, 0, Cont.cell (AV.int IntKind.i64 c)), (1, 1, Cont.cell (AV.rs 1 no false (nB q))), (1, 2, Cont.cell (AV.rs 1 m false (nI w))), (1, 3, Cont.cell (AV.rs 1 m false (nI x))), (1, 4, Cont.top), (2, 0, Cont.vec 1 3 m (nI (Prod.fst s))), (3, 0, Cont.vec 1 4 m (nB (Prod.snd s)))], 4, 191⟩) (fun y => m - y.1) ⟨0, Nat.zero_le _⟩ (wk_go [1, 105, 106] rfl (by decide) rfl rfl ⟨⟨_, rfl, rfl⟩, ⟨_, rfl, rfl⟩, ⟨_, rfl, rfl⟩, ⟨_, rfl, rfl⟩, ⟨_, rfl, rfl⟩, ⟨_, rfl, rfl⟩, ⟨_, rfl, rfl⟩, ⟨_, rfl, rfl⟩, ⟨_, rfl, rfl⟩, ⟨_, rfl, trivial⟩, ⟨_, rfl, rfl, rfl, rfl, fun _ _ => rfl⟩, ⟨_, rfl, rfl, rfl, rfl, fun _ _ => rfl⟩, trivial⟩) ?_
      rintro ⟨i, hi⟩
      dsimp only at hi ⊢
      refine evC_seq ?_
      refine evC_go0 (dec := []) (ks := [(0, 1), (0, 2), (0, 3), (0, 4), (0, 6), (0, 62), (1, 0), (1, 1), (1, 2), (1, 3), (1, 4), (2, 0), (3, 0)]) (s' := ⟨[(0, 1, Cont.cell (AV.ptr 1 0)), (0, 2, Cont.cell (AV.bool false)), (0, 3, Cont.cell (AV.vs 2)), (0, 4, Cont.cell (AV.vs 3)), (0, 6, Cont.cell (AV.int IntKind.i64 (↑i : Int))), (0, 62, Cont.cell (AV.bool (decide ((↑i : Int) < (↑m : Int))))), (1, 0, Cont.cell (AV.int IntKind.i64 c)), (1, 1, Cont.cell (AV.rs 1 no false (nB q))), (1, 2, Cont.cell (AV.rs 1 m false (nI w))), (1, 3, Cont.cell (AV.rs 1 m false (nI x))), (1, 4, Cont.top), (2, 0, Cont.vec 1 3 m (nI (Prod.fst s))), (3, 0, Cont.vec 1 4 m (nB (Prod.snd s)))], 36, 191⟩) (by kernel_rfl) (by kernel_rfl) ?_
      refine evC_if (q := decide ((↑i : Int) < (↑m : Int))) (by kernel_rfl) (fun hc => ?_) (fun hc => ?_)
      · have hlt : i < m := by have := of_decide_eq_true hc; omega
        clear hc
        have hb := b1 i hlt
        refine evC_skip ?_
        refine then_normal ?_
        refine evC_seq ?_
        refine evC_block ?_
        refine evC_go (dec := []) (ks := [(0, 1), (0, 2), (0, 3), (0, 4), (0, 6), (0, 7), (1, 0), (1, 1), (1, 2), (1, 3), (1, 4), (2, 0), (3, 0)]) (ps := [(0 : Int) ≤ (↑i : Int), (↑i : Int) < (↑m : Int), (1 : Nat) = (1 : Nat)]) (s' := ⟨[(0, 1, Cont.cell (AV.ptr 1 0)), (0, 2, Cont.cell (AV.bool false)), (0, 3, Cont.cell (AV.vs 2)), (0, 4, Cont.cell (AV.vs 3)), (0, 6, Cont.cell (AV.int IntKind.i64 (↑i : Int))), (0, 7, Cont.cell (AV.int IntKind.i64 (x i))), (1, 0, Cont.cell (AV.int IntKind.i64 c)), (1, 1, Cont.cell (AV.rs 1 no false (nB q))), (1, 2, Cont.cell (AV.rs 1 m false (nI w))), (1, 3, Cont.cell (AV.rs 1 m false (nI x))), (1, 4, Cont.top), (2, 0, Cont.vec 1 3 m (nI (Prod.fst s))), (3, 0, Cont.vec 1 4 m (nB (Prod.snd s)))], 84, 191⟩) (by kernel_rfl) (by kernel_rfl) ?_ ?_
        · (simp only [All]; (repeat' apply And.intro) <;> (try intro _) <;> (try intro _) <;> (repeat' apply And.intro) <;> (try intro _) <;> (try intro _) <;> first | trivial | assumption | exact .inr trivial | exact .inr rfl | omega | rfl | exact ⟨_, rfl, rfl⟩ | exact ⟨rfl, rfl⟩ | exact ⟨fun _ => rfl, fun _ => rfl⟩ | (unfold maxLen; omega) | (unfold i64R; first | omega | decide) | decide)
        have hgone := hok.gone i hlt
        have hstay := hok.stay i hlt
        refine evC_cutTo (ι := Unit) (fun _ => ⟨[(0, 1, Cont.cell (AV.ptr 1 0)), (0, 2, Cont.cell (AV.bool false)), (0, 3, Cont.cell (AV.vs 2)), (0, 4, Cont.cell (AV.vs 3)), (0, 6, Cont.cell (AV.int IntKind.i64 (↑i : Int))), (0, 7, Cont.cell (AV.int IntKind.i64 (x i))), (1, 0, Cont.cell (AV.int IntKind.i64 c)), (1, 1, Cont.cell (AV.rs 1 no false (nB q))), (1, 2, Cont.cell (AV.rs 1 m false (nI w))), (1, 3, Cont.cell (AV.rs 1 m false (nI x))), (1, 4, Cont.top), (2, 0, Cont.vec 1 3 m (nI (Prod.fst s))), (3, 0, Cont.vec 1 4 m (nB (Prod.snd s)))], 4, 191⟩) ?_ ?_
        · cases hg : s.2 i with
          | true =>
            obtain ⟨h6, h7, h8⟩ := hgone hg
            have e1 : (s.1 i != x i) = false := by rw [h6]; simp
            have e2 : decide (x i < 0) = false := by simp; omega
            have e3 : decide (x i ≥ (no : Int)) = false := by simp; omega
            refine evC_go (dec := [(5, true), (6, true), (7, true), (8, true), (9, true), (10, true), (11, true), (12, true), (13, true), (14, true), (15, true), (16, true), (17, true), (18, true), (19, true), (20, true), (21, true), (22, true), (23, true), (24, true), (25, true), (26, true), (27, true), (28, true), (29, true), (32, true), (33, true), (34, true), (35, true), (36, true), (37, true), (38, false), (39, false), (40, false), (41, false), (42, false), (43, false), (44, false), (45, false), (46, false), (47, false), (48, true)]) (ks := [(0, 1), (0, 2), (0, 3), (0, 4), (0, 6), (0, 7), (0, 119), (1, 0), (1, 1), (1, 2), (1, 3), (1, 4), (2, 0), (3, 0)]) (ps := [(0 : Int) ≤ (↑i : Int), (↑i : Int) < (↑m : Int), (1 : Nat) = (1 : Nat), (0 : Int) ≤ (↑i : Int), (↑i : Int) < (↑m : Int), (1 : Nat) = (1 : Nat), List.all [Prod.snd s i] id = true, List.all [Prod.snd s i] id = true, List.all [Prod.snd s i] id = true, (0 : Int) ≤ (↑i : Int), (↑i : Int) < (↑m : Int), (1 : Nat) = (1 : Nat), List.all [Prod.snd s i] id = true, (0 : Int) ≤ (↑i : Int), (↑i : Int) < (↑m : Int), (1 : Nat) = (1 : Nat), List.all [Prod.snd s i] id = true, List.all [Prod.snd s i] id = true, List.all [Prod.snd s i] id = true, List.all [!Prod.fst s i != x i] id = true, List.all [!Prod.fst s i != x i] id = true, List.all [Prod.snd s i] id = true, List.all [Prod.snd s i] id = true, List.all [!bif Prod.fst s i != x i then true else decide (x i < (0 : Int))] id = true, List.all [!bif Prod.fst s i != x i then true else decide (x i < (0 : Int))] id = true, List.all [!bif Prod.fst s i != x i then true else decide (x i < (0 : Int))] id = true, List.all [!bif Prod.fst s i != x i then true else decide (x i < (0 : Int))] id = true, List.all [!bif Prod.fst s i != x i then true else decide (x i < (0 : Int))] id = true, List.all [Prod.snd s i] id = true, List.all [Prod.snd s i] id = true, List.all [!bif bif Prod.fst s i != x i then true else decide (x i < (0 : Int)) then true else decide (x i ≥ (↑no : Int))] id = true, List.all [!bif bif Prod.fst s i != x i then true else decide (x i < (0 : Int)) then true else decide (x i ≥ (↑no : Int))] id = true, List.all [!bif bif Prod.fst s i != x i then true else decide (x i < (0 : Int)) then true else decide (x i ≥ (↑no : Int))] id = true, List.all [!bif bif Prod.fst s i != x i then true else decide (x i < (0 : Int)) then true else decide (x i ≥ (↑no : Int))] id = true, (0 : Int) ≤ x i, x i < (↑no : Int), (1 : Nat) = (1 : Nat), List.all [!bif bif Prod.fst s i != x i then true else decide (x i < (0 : Int)) then true else decide (x i ≥ (↑no : Int))] id = true, List.all [!bif bif Prod.fst s i != x i then true else decide (x i < (0 : Int)) then true else decide (x i ≥ (↑no : Int))] id = true, List.all [Prod.snd s i] id = true, List.all [!bif Prod.snd s i then bif bif bif Prod.fst s i != x i then true else decide (x i < (0 : Int)) then true else decide (x i ≥ (↑no : Int)) then true else !q (Int.toNat (x i)) else false] id = true, List.all [!bif Prod.snd s i then bif bif bif Prod.fst s i != x i then true else decide (x i < (0 : Int)) then true else decide (x i ≥ (↑no : Int)) then true else !q (Int.toNat (x i)) else false] id = true, List.all [!bif Prod.snd s i then bif bif bif Prod.fst s i != x i then true else decide (x i < (0 : Int)) then true else decide (x i ≥ (↑no : Int)) then true else !q (Int.toNat (x i)) else false] id = true, (0 : Int) ≤ (↑i : Int), (↑i : Int) < (↑m : Int), (1 : Nat) = (1 : Nat), List.all [!bif Prod.snd s i then bif bif bif Prod.fst s i != x i then true else decide (x i < (0 : Int)) then true else decide (x i ≥ (↑no : Int)) then true else !q (Int.toNat (x i)) else false] id = true, (0 : Int) ≤ (↑i : Int), (↑i : Int) < (↑m : Int), (1 : Nat) = (1 : Nat), List.all [!bif Prod.snd s i then bif bif bif Prod.fst s i != x i then true else decide (x i < (0 : Int)) then true else decide (x i ≥ (↑no : Int)) then true else !q (Int.toNat (x i)) else false] id = true, List.all [!bif Prod.snd s i then bif bif bif Prod.fst s i != x i then true else decide (x i < (0 : Int)) then true else decide (x i ≥ (↑no : Int)) then true else !q (Int.toNat (x i)) else false] id = true, List.all [!Prod.snd s i] id = false, List.all [!Prod.snd s i] id = false, List.all [!Prod.snd s i] id = false, List.all [!Prod.snd s i] id = false, List.all [!Prod.snd s i] id = false, List.all [!Prod.snd s i] id = false, List.all [!Prod.snd s i] id = false, List.all [!Prod.snd s i] id = false, List.all [!Prod.snd s i] id = false, List.all [!Prod.snd s i] id = false, List.all [!bif Prod.snd s i then bif bif bif Prod.fst s i != x i then true else decide (x i < (0 : Int)) then true else decide (x i ≥ (↑no : Int)) then true else !q (Int.toNat (x i)) else false] id = true, (!Prod.snd s i) = false]) (s' := ⟨[(0, 1, Cont.cell (AV.ptr 1 0)), (0, 2, Cont.cell (AV.bool false)), (0, 3, Cont.cell (AV.vs 2)), (0, 4, Cont.cell (AV.vs 3)), (0, 6, Cont.cell (AV.int IntKind.i64 (↑i : Int))), (0, 7, Cont.cell (AV.int IntKind.i64 (x i))), (0, 119, Cont.cell (AV.bool (bif bif Prod.snd s i then bif bif bif Prod.fst s i != x i then true else decide (x i < 0) then true else decide (x i ≥ (↑no : Int)) then true else !q (Int.toNat (x i)) else false then true else false))), (1, 0, Cont.cell (AV.int IntKind.i64 c)), (1, 1, Cont.cell (AV.rs 1 no false (nB q))), (1, 2, Cont.cell (AV.rs 1 m false (nI w))), (1, 3, Cont.cell (AV.rs 1 m false (nI x))), (1, 4, Cont.top), (2, 0, Cont.vec 1 3 m (nI (Prod.fst s))), (3, 0, Cont.vec 1 4 m (nB (Prod.snd s)))], 484, 191⟩) (by kernel_rfl) (by kernel_rfl) ?_ ?_
            · simp only [All, hg, e1, e2, e3, h8]
              repeat' apply And.intro
              all_goals first | trivial | omega | rfl
            rw [hg, e1, e2, e3, h8]
            refine evC_if (q := false) (by kernel_rfl) (fun hc => ?_) (fun hc => ?_)
            · simp at hc
            refine evC_skip ?_
            refine cut_normal (()) (wk_go [1, 2, 3] rfl (by decide) rfl rfl ⟨⟨_, rfl, rfl⟩, ⟨_, rfl, rfl⟩, ⟨_, rfl, rfl⟩, ⟨_, rfl, rfl⟩, ⟨_, rfl, rfl⟩, ⟨_, rfl, rfl⟩, ⟨_, rfl, rfl⟩, ⟨_, rfl, rfl⟩, ⟨_, rfl, rfl⟩, ⟨_, rfl, rfl⟩, ⟨_, rfl, trivial⟩, ⟨_, rfl, ⟨rfl, rfl, rfl, fun _ _ => rfl⟩⟩, ⟨_, rfl, ⟨rfl, rfl, rfl, fun _ _ => rfl⟩⟩, trivial⟩)
          | false =>
            have h6 := hstay hg
            have e1 : (s.1 i != w i) = false := by rw [h6]; simp
            have z : ∀ l : List Bool, (s.2 i :: l).all id = true → False := fun l h => by simp [hg] at h
            refine evC_go (dec := [(32, true), (33, true), (34, true), (35, true), (36, true), (37, true), (38, true), (39, true), (40, true), (41, true), (42, true), (43, true), (44, true), (45, true), (46, true), (47, true), (48, true)]) (ks := [(0, 1), (0, 2), (0, 3), (0, 4), (0, 6), (0, 7), (0, 119), (1, 0), (1, 1), (1, 2), (1, 3), (1, 4), (2, 0), (3, 0)]) (ps := [(0 : Int) ≤ (↑i : Int), (↑i : Int) < (↑m : Int), (1 : Nat) = (1 : Nat), (0 : Int) ≤ (↑i : Int), (↑i : Int) < (↑m : Int), (1 : Nat) = (1 : Nat), List.all [Prod.snd s i] id = true → (0 : Int) ≤ (↑i : Int), List.all [Prod.snd s i] id = true → (↑i : Int) < (↑m : Int), List.all [Prod.snd s i] id = true → (1 : Nat) = (1 : Nat), List.all [Prod.snd s i] id = true → (0 : Int) ≤ (↑i : Int), List.all [Prod.snd s i] id = true → (↑i : Int) < (↑m : Int), List.all [Prod.snd s i] id = true → (1 : Nat) = (1 : Nat), List.all [!bif bif Prod.fst s i != x i then true else decide (x i < (0 : Int)) then true else decide (x i ≥ (↑no : Int)), Prod.snd s i] id = true → (0 : Int) ≤ x i, List.all [!bif bif Prod.fst s i != x i then true else decide (x i < (0 : Int)) then true else decide (x i ≥ (↑no : Int)), Prod.snd s i] id = true → x i < (↑no : Int), List.all [!bif bif Prod.fst s i != x i then true else decide (x i < (0 : Int)) then true else decide (x i ≥ (↑no : Int)), Prod.snd s i] id = true → (1 : Nat) = (1 : Nat), List.all [!bif Prod.snd s i then bif bif bif Prod.fst s i != x i then true else decide (x i < (0 : Int)) then true else decide (x i ≥ (↑no : Int)) then true else !q (Int.toNat (x i)) else false] id = true, List.all [!bif Prod.snd s i then bif bif bif Prod.fst s i != x i then true else decide (x i < (0 : Int)) then true else decide (x i ≥ (↑no : Int)) then true else !q (Int.toNat (x i)) else false] id = true, List.all [!bif Prod.snd s i then bif bif bif Prod.fst s i != x i then true else decide (x i < (0 : Int)) then true else decide (x i ≥ (↑no : Int)) then true else !q (Int.toNat (x i)) else false] id = true, (0 : Int) ≤ (↑i : Int), (↑i : Int) < (↑m : Int), (1 : Nat) = (1 : Nat), List.all [!bif Prod.snd s i then bif bif bif Prod.fst s i != x i then true else decide (x i < (0 : Int)) then true else decide (x i ≥ (↑no : Int)) then true else !q (Int.toNat (x i)) else false] id = true, (0 : Int) ≤ (↑i : Int), (↑i : Int) < (↑m : Int), (1 : Nat) = (1 : Nat), List.all [!bif Prod.snd s i then bif bif bif Prod.fst s i != x i then true else decide (x i < (0 : Int)) then true else decide (x i ≥ (↑no : Int)) then true else !q (Int.toNat (x i)) else false] id = true, List.all [!bif Prod.snd s i then bif bif bif Prod.fst s i != x i then true else decide (x i < (0 : Int)) then true else decide (x i ≥ (↑no : Int)) then true else !q (Int.toNat (x i)) else false] id = true, List.all [!Prod.snd s i] id = true, List.all [!Prod.snd s i] id = true, List.all [!Prod.snd s i] id = true, (0 : Int) ≤ (↑i : Int), (↑i : Int) < (↑m : Int), (1 : Nat) = (1 : Nat), List.all [!Prod.snd s i] id = true, (0 : Int) ≤ (↑i : Int), (↑i : Int) < (↑m : Int), (1 : Nat) = (1 : Nat), List.all [!Prod.snd s i] id = true, List.all [!Prod.snd s i] id = true, List.all [!Prod.snd s i] id = true, List.all [!Prod.snd s i] id = true, (0 : Int) ≤ (↑i : Int), (↑i : Int) < (↑m : Int), (1 : Nat) = (1 : Nat), List.all [!Prod.snd s i] id = true, List.all [!Prod.snd s i] id = true, List.all [!bif Prod.snd s i then bif bif bif Prod.fst s i != x i then true else decide (x i < (0 : Int)) then true else decide (x i ≥ (↑no : Int)) then true else !q (Int.toNat (x i)) else false] id = true]) (s' := ⟨[(0, 1, Cont.cell (AV.ptr 1 0)), (0, 2, Cont.cell (AV.bool false)), (0, 3, Cont.cell (AV.vs 2)), (0, 4, Cont.cell (AV.vs 3)), (0, 6, Cont.cell (AV.int IntKind.i64 (↑i : Int))), (0, 7, Cont.cell (AV.int IntKind.i64 (x i))), (0, 119, Cont.cell (AV.bool (bif bif Prod.snd s i then bif bif bif Prod.fst s i != x i then true else decide (x i < 0) then true else decide (x i ≥ (↑no : Int)) then true else !q (Int.toNat (x i)) else false then true else bif !Prod.snd s i then Prod.fst s i != w i else false))), (1, 0, Cont.cell (AV.int IntKind.i64 c)), (1, 1, Cont.cell (AV.rs 1 no false (nB q))), (1, 2, Cont.cell (AV.rs 1 m false (nI w))), (1, 3, Cont.cell (AV.rs 1 m false (nI x))), (1, 4, Cont.top), (2, 0, Cont.vec 1 3 m (nI (Prod.fst s))), (3, 0, Cont.vec 1 4 m (nB (Prod.snd s)))], 484, 191⟩) (by kernel_rfl) (by kernel_rfl) ?_ ?_
            · simp only [All]
              repeat' apply And.intro
              all_goals first | trivial | omega | (intro h; omega) | (rw [hg]; rfl) | (intro h; exfalso; rw [hg] at h; simp at h; done)
            rw [hg, e1]
            refine evC_if (q := false) (by kernel_rfl) (fun hc => ?_) (fun hc => ?_)
            · simp at hc
            refine evC_skip ?_
            refine cut_normal (()) (wk_go [1, 2, 3] rfl (by decide) rfl rfl ⟨⟨_, rfl, rfl⟩, ⟨_, rfl, rfl⟩, ⟨_, rfl, rfl⟩, ⟨_, rfl, rfl⟩, ⟨_, rfl, rfl⟩, ⟨_, rfl, rfl⟩, ⟨_, rfl, rfl⟩, ⟨_, rfl, rfl⟩, ⟨_, rfl, rfl⟩, ⟨_, rfl, rfl⟩, ⟨_, rfl, trivial⟩, ⟨_, rfl, ⟨rfl, rfl, rfl, fun _ _ => rfl⟩⟩, ⟨_, rfl, ⟨rfl, rfl, rfl, fun _ _ => rfl⟩⟩, trivial⟩)
        intro _
        refine evC_go0 (dec := []) (ks := [(0, 1), (0, 2), (0, 3), (0, 4), (0, 6), (0, 7), (0, 8), (1, 0), (1, 1), (1, 2), (1, 3), (1, 4), (2, 0), (3, 0)]) (s' := ⟨[(0, 1, Cont.cell (AV.ptr 1 0)), (0, 2, Cont.cell (AV.bool false)), (0, 3, Cont.cell (AV.vs 2)), (0, 4, Cont.cell (AV.vs 3)), (0, 6, Cont.cell (AV.int IntKind.i64 (↑i : Int))), (0, 7, Cont.cell (AV.int IntKind.i64 (x i))), (0, 8, Cont.cell (AV.bool false)), (1, 0, Cont.cell (AV.int IntKind.i64 c)), (1, 1, Cont.cell (AV.rs 1 no false (nB q))), (1, 2, Cont.cell (AV.rs 1 m false (nI w))), (1, 3, Cont.cell (AV.rs 1 m false (nI x))), (1, 4, Cont.top), (2, 0, Cont.vec 1 3 m (nI (Prod.fst s))), (3, 0, Cont.vec 1 4 m (nB (Prod.snd s)))], 12, 191⟩) (by kernel_rfl) (by kernel_rfl) ?_
        refine evC_seq ?_
        refine evC_go0 (dec := []) (ks := [(0, 1), (0, 2), (0, 3), (0, 4), (0, 6), (0, 7), (0, 8), (0, 9), (1, 0), (1, 1), (1, 2), (1, 3), (1, 4), (2, 0), (3, 0)]) (s' := ⟨[(0, 1, Cont.cell (AV.ptr 1 0)), (0, 2, Cont.cell (AV.bool false)), (0, 3, Cont.cell (AV.vs 2)), (0, 4, Cont.cell (AV.vs 3)), (0, 6, Cont.cell (AV.int IntKind.i64 (↑i : Int))), (0, 7, Cont.cell (AV.int IntKind.i64 (x i))), (0, 8, Cont.cell (AV.bool false)), (0, 9, Cont.cell (AV.int IntKind.i64 0)), (1, 0, Cont.cell (AV.int IntKind.i64 c)), (1, 1, Cont.cell (AV.rs 1 no false (nB q))), (1, 2, Cont.cell (AV.rs 1 m false (nI w))), (1, 3, Cont.cell (AV.rs 1 m false (nI x))), (1, 4, Cont.top), (2, 0, Cont.vec 1 3 m (nI (Prod.fst s))), (3, 0, Cont.vec 1 4 m (nB (Prod.snd s)))], 20, 191⟩) (by kernel_rfl) (by kernel_rfl) ?_
        refine evC_block ?_
        refine evC_loop (ι := { k : Nat // k ≤ m }) (fun y => ⟨[(0, 1, Cont.cell (AV.ptr 1 0)), (0, 2, Cont.cell (AV.bool false)), (0, 3, Cont.cell (AV.vs 2)), (0, 4, Cont.cell (AV.vs 3)), (0, 6, Cont.cell (AV.int IntKind.i64 (↑i : Int))), (0, 7, Cont.cell (AV.int IntKind.i64 (x i))), (0, 8, .cell (.bool (occ y.1 s.1 (x i)))), (0, 9, .cell (.int .i64 (y.1 : Nat))), (1, 0, Cont.cell (AV.int IntKind.i64 c)), (1, 1, Cont.cell (AV.rs 1 no false (nB q))), (1, 2, Cont.cell (AV.rs 1 m false (nI w))), (1, 3, Cont.cell (AV.rs 1 m false (nI x))), (1, 4, Cont.top), (2, 0, Cont.vec 1 3 m (nI (Prod.fst s))), (3, 0, Cont.vec 1 4 m (nB (Prod.snd s)))], 4, 191⟩) (fun y => m - y.1) ⟨0, Nat.zero_le _⟩ (wk_go [1, 2, 3] rfl (by decide) rfl rfl ⟨⟨_, rfl, rfl⟩, ⟨_, rfl, rfl⟩, ⟨_, rfl, rfl⟩, ⟨_, rfl, rfl⟩, ⟨_, rfl, rfl⟩, ⟨_, rfl, rfl⟩, ⟨_, rfl, rfl⟩, ⟨_, rfl, rfl⟩, ⟨_, rfl, rfl⟩, ⟨_, rfl, rfl⟩, ⟨_, rfl, rfl⟩, ⟨_, rfl, rfl⟩, ⟨_, rfl, trivial⟩, ⟨_, rfl, rfl, rfl, rfl, fun _ _ => rfl⟩, ⟨_, rfl, rfl, rfl, rfl, fun _ _ => rfl⟩, trivial⟩) ?_
        rintro ⟨k, hk⟩
        dsimp only at hk ⊢
        refine evC_seq ?_
        refine evC_go0 (dec := []) (ks := [(0, 1), (0, 2), (0, 3), (0, 4), (0, 6), (0, 7), (0, 8), (0, 9), (0, 123), (1, 0), (1, 1), (1, 2), (1, 3), (1, 4), (2, 0), (3, 0)]) (s' := ⟨[(0, 1, Cont.cell (AV.ptr 1 0)), (0, 2, Cont.cell (AV.bool false)), (0, 3, Cont.cell (AV.vs 2)), (0, 4, Cont.cell (AV.vs 3)), (0, 6, Cont.cell (AV.int IntKind.i64 (↑i : Int))), (0, 7, Cont.cell (AV.int IntKind.i64 (x i))), (0, 8, Cont.cell (AV.bool (occ k (Prod.fst s) (x i)))), (0, 9, Cont.cell (AV.int IntKind.i64 (↑k : Int))), (0, 123, Cont.cell (AV.bool (decide ((↑k : Int) < (↑m : Int))))), (1, 0, Cont.cell (AV.int IntKind.i64 c)), (1, 1, Cont.cell (AV.rs 1 no false (nB q))), (1, 2, Cont.cell (AV.rs 1 m false (nI w))), (1, 3, Cont.cell (AV.rs 1 m false (nI x))), (1, 4, Cont.top), (2, 0, Cont.vec 1 3 m (nI (Prod.fst s))), (3, 0, Cont.vec 1 4 m (nB (Prod.snd s)))], 36, 191⟩) (by kernel_rfl) (by kernel_rfl) ?_
        refine evC_if (q := decide ((↑k : Int) < (↑m : Int))) (by kernel_rfl) (fun hc => ?_) (fun hc => ?_)
        · have hltk : k < m := by have := of_decide_eq_true hc; omega
          clear hc
          have hd : (bif bif k != i then decide (s.1 k ≥ 0) else false then s.1 k == s.1 i else false) = false := by
            by_cases e : k = i
            · subst e; simp
            · by_cases h0 : s.1 k ≥ 0
              · have := hok.dist k i hltk hlt e (by omega)
                have h1 : (s.1 k == s.1 i) = false := by simpa using this
                rw [h1]; cases (bif k != i then decide (s.1 k ≥ 0) else false) <;> rfl
              · have h1 : decide (s.1 k ≥ 0) = false := by simpa using h0
                rw [h1]; cases k != i <;> rfl
          refine evC_skip ?_
          refine then_normal ?_
          refine evC_seq ?_
          refine evC_block ?_
          refine evC_seq ?_
          refine evC_go (dec := []) (ks := [(0, 1), (0, 2), (0, 3), (0, 4), (0, 6), (0, 7), (0, 8), (0, 9), (0, 146), (1, 0), (1, 1), (1, 2), (1, 3), (1, 4), (2, 0), (3, 0)]) (ps := [List.all [(↑k : Int) != (↑i : Int)] id = true → (0 : Int) ≤ (↑k : Int), List.all [(↑k : Int) != (↑i : Int)] id = true → (↑k : Int) < (↑m : Int), List.all [(↑k : Int) != (↑i : Int)] id = true → (1 : Nat) = (1 : Nat), List.all [(↑k : Int) != (↑i : Int)] id = true → (0 : Int) ≤ (↑k : Int), List.all [(↑k : Int) != (↑i : Int)] id = true → (↑k : Int) < (↑m : Int), List.all [(↑k : Int) != (↑i : Int)] id = true → (1 : Nat) = (1 : Nat), List.all [bif (↑k : Int) != (↑i : Int) then decide (Prod.fst s k ≥ (0 : Int)) else false] id = true → (0 : Int) ≤ (↑k : Int), List.all [bif (↑k : Int) != (↑i : Int) then decide (Prod.fst s k ≥ (0 : Int)) else false] id = true → (↑k : Int) < (↑m : Int), List.all [bif (↑k : Int) != (↑i : Int) then decide (Prod.fst s k ≥ (0 : Int)) else false] id = true → (1 : Nat) = (1 : Nat), List.all [bif (↑k : Int) != (↑i : Int) then decide (Prod.fst s k ≥ (0 : Int)) else false] id = true → (0 : Int) ≤ (↑k : Int), List.all [bif (↑k : Int) != (↑i : Int) then decide (Prod.fst s k ≥ (0 : Int)) else false] id = true → (↑k : Int) < (↑m : Int), List.all [bif (↑k : Int) != (↑i : Int) then decide (Prod.fst s k ≥ (0 : Int)) else false] id = true → (1 : Nat) = (1 : Nat), List.all [bif (↑k : Int) != (↑i : Int) then decide (Prod.fst s k ≥ (0 : Int)) else false] id = true → (0 : Int) ≤ (↑i : Int), List.all [bif (↑k : Int) != (↑i : Int) then decide (Prod.fst s k ≥ (0 : Int)) else false] id = true → (↑i : Int) < (↑m : Int), List.all [bif (↑k : Int) != (↑i : Int) then decide (Prod.fst s k ≥ (0 : Int)) else false] id = true → (1 : Nat) = (1 : Nat), List.all [bif (↑k : Int) != (↑i : Int) then decide (Prod.fst s k ≥ (0 : Int)) else false] id = true → (0 : Int) ≤ (↑i : Int), List.all [bif (↑k : Int) != (↑i : Int) then decide (Prod.fst s k ≥ (0 : Int)) else false] id = true → (↑i : Int) < (↑m : Int), List.all [bif (↑k : Int) != (↑i : Int) then decide (Prod.fst s k ≥ (0 : Int)) else false] id = true → (1 : Nat) = (1 : Nat)]) (s' := ⟨[(0, 1, Cont.cell (AV.ptr 1 0)), (0, 2, Cont.cell (AV.bool false)), (0, 3, Cont.cell (AV.vs 2)), (0, 4, Cont.cell (AV.vs 3)), (0, 6, Cont.cell (AV.int IntKind.i64 (↑i : Int))), (0, 7, Cont.cell (AV.int IntKind.i64 (x i))), (0, 8, Cont.cell (AV.bool (occ k (Prod.fst s) (x i)))), (0, 9, Cont.cell (AV.int IntKind.i64 (↑k : Int))), (0, 146, Cont.cell (AV.bool (bif bif (↑k : Int) != (↑i : Int) then decide (Prod.fst s k ≥ 0) else false then Prod.fst s k == Prod.fst s i else false))), (1, 0, Cont.cell (AV.int IntKind.i64 c)), (1, 1, Cont.cell (AV.rs 1 no false (nB q))), (1, 2, Cont.cell (AV.rs 1 m false (nI w))), (1, 3, Cont.cell (AV.rs 1 m false (nI x))), (1, 4, Cont.top), (2, 0, Cont.vec 1 3 m (nI (Prod.fst s))), (3, 0, Cont.vec 1 4 m (nB (Prod.snd s)))], 204, 191⟩) (by kernel_rfl) (by kernel_rfl) ?_ ?_
          · (simp only [All]; (repeat' apply And.intro) <;> (try intro _) <;> (try intro _) <;> (repeat' apply And.intro) <;> (try intro _) <;> (try intro _) <;> first | trivial | assumption | exact .inr trivial | exact .inr rfl | omega | rfl | exact ⟨_, rfl, rfl⟩ | exact ⟨rfl, rfl⟩ | exact ⟨fun _ => rfl, fun _ => rfl⟩ | (unfold maxLen; omega) | (unfold i64R; first | omega | decide) | decide)
          refine evC_if (q := bif bif (↑k : Int) != (↑i : Int) then decide (Prod.fst s k ≥ 0) else false then Prod.fst s k == Prod.fst s i else false) (by kernel_rfl) (fun hc => ?_) (fun hc => ?_)
          · exfalso
            have e3 : ((k : Int) != (i : Int)) = (k != i) := by
              rw [Bool.eq_iff_iff]; simp only [bne_iff_ne, ne_eq]; omega
            rw [e3, hd] at hc; cases hc
          clear hc
          refine evC_skip ?_
          refine then_normal ?_
          refine evC_goL (dec := []) (ks := [(0, 1), (0, 2), (0, 3), (0, 4), (0, 6), (0, 7), (0, 8), (0, 9), (1, 0), (1, 1), (1, 2), (1, 3), (1, 4), (2, 0), (3, 0)]) (ps := [List.all [!occ k (Prod.fst s) (x i)] id = true → (0 : Int) ≤ (↑k : Int), List.all [!occ k (Prod.fst s) (x i)] id = true → (↑k : Int) < (↑m : Int), List.all [!occ k (Prod.fst s) (x i)] id = true → (1 : Nat) = (1 : Nat), List.all [!occ k (Prod.fst s) (x i)] id = true → (0 : Int) ≤ (↑k : Int), List.all [!occ k (Prod.fst s) (x i)] id = true → (↑k : Int) < (↑m : Int), List.all [!occ k (Prod.fst s) (x i)] id = true → (1 : Nat) = (1 : Nat)]) (s' := ⟨[(0, 1, Cont.cell (AV.ptr 1 0)), (0, 2, Cont.cell (AV.bool false)), (0, 3, Cont.cell (AV.vs 2)), (0, 4, Cont.cell (AV.vs 3)), (0, 6, Cont.cell (AV.int IntKind.i64 (↑i : Int))), (0, 7, Cont.cell (AV.int IntKind.i64 (x i))), (0, 8, Cont.cell (AV.bool (bif occ k (Prod.fst s) (x i) then true else Prod.fst s k == x i))), (0, 9, Cont.cell (AV.int IntKind.i64 (↑k : Int))), (1, 0, Cont.cell (AV.int IntKind.i64 c)), (1, 1, Cont.cell (AV.rs 1 no false (nB q))), (1, 2, Cont.cell (AV.rs 1 m false (nI w))), (1, 3, Cont.cell (AV.rs 1 m false (nI x))), (1, 4, Cont.top), (2, 0, Cont.vec 1 3 m (nI (Prod.fst s))), (3, 0, Cont.vec 1 4 m (nB (Prod.snd s)))], 284, 191⟩) (by kernel_rfl) (by kernel_rfl) ?_ ?_
          · (simp only [All]; (repeat' apply And.intro) <;> (try intro _) <;> (try intro _) <;> (repeat' apply And.intro) <;> (try intro _) <;> (try intro _) <;> first | trivial | assumption | exact .inr trivial | exact .inr rfl | omega | rfl | exact ⟨_, rfl, rfl⟩ | exact ⟨rfl, rfl⟩ | exact ⟨fun _ => rfl, fun _ => rfl⟩ | (unfold maxLen; omega) | (unfold i64R; first | omega | decide) | decide)
          refine block_normal ?_
          refine then_normal ?_
          refine evC_goL0 (dec := []) (ks := [(0, 1), (0, 2), (0, 3), (0, 4), (0, 6), (0, 7), (0, 8), (0, 9), (1, 0), (1, 1), (1, 2), (1, 3), (1, 4), (2, 0), (3, 0)]) (s' := ⟨[(0, 1, Cont.cell (AV.ptr 1 0)), (0, 2, Cont.cell (AV.bool false)), (0, 3, Cont.cell (AV.vs 2)), (0, 4, Cont.cell (AV.vs 3)), (0, 6, Cont.cell (AV.int IntKind.i64 (↑i : Int))), (0, 7, Cont.cell (AV.int IntKind.i64 (x i))), (0, 8, Cont.cell (AV.bool (bif occ k (Prod.fst s) (x i) then true else Prod.fst s k == x i))), (0, 9, Cont.cell (AV.int IntKind.i64 (IntKind.i64.wrap ((↑k : Int) + 1)))), (1, 0, Cont.cell (AV.int IntKind.i64 c)), (1, 1, Cont.cell (AV.rs 1 no false (nB q))), (1, 2, Cont.cell (AV.rs 1 m false (nI w))), (1, 3, Cont.cell (AV.rs 1 m false (nI x))), (1, 4, Cont.top), (2, 0, Cont.vec 1 3 m (nI (Prod.fst s))), (3, 0, Cont.vec 1 4 m (nB (Prod.snd s)))], 308, 191⟩) (by kernel_rfl) (by kernel_rfl) ?_
          rw [cond_or, ← occ_succ, wrap_add_one hltk (by omega)]
          refine round_normal (⟨k + 1, by omega⟩) (wk_go [1, 2, 3] rfl (by decide) rfl rfl ⟨⟨_, rfl, rfl⟩, ⟨_, rfl, rfl⟩, ⟨_, rfl, rfl⟩, ⟨_, rfl, rfl⟩, ⟨_, rfl, rfl⟩, ⟨_, rfl, rfl⟩, ⟨_, rfl, rfl⟩, ⟨_, rfl, rfl⟩, ⟨_, rfl, rfl⟩, ⟨_, rfl, rfl⟩, ⟨_, rfl, rfl⟩, ⟨_, rfl, rfl⟩, ⟨_, rfl, trivial⟩, ⟨_, rfl, ⟨rfl, rfl, rfl, fun _ _ => rfl⟩⟩, ⟨_, rfl, ⟨rfl, rfl, rfl, fun _ _ => rfl⟩⟩, trivial⟩) ?_
          show m - (k + 1) < m - k; omega
        · have hltk : k = m := by have := of_decide_eq_false hc; omega
          subst hltk
          clear hc
          have hgo : go1 q x k s i = false := chg_go hfin hlt
          have hcx : ∀ b : Bool, [bif bif b then decide (x i ≥ 0) else false then decide (x i < (no : Int)) else false].all id = true → 0 ≤ x i ∧ x i < (no : Int) := by
            intro b h
            cases b <;> simp at h
            exact h
          have hd : (bif bif bif bif bif !s.2 i then decide (s.1 i ≥ 0) else false then decide (x i ≥ 0) else false then decide (x i < (no : Int)) else false then q (x i).toNat else false then !occ k s.1 (x i) else false) = false := by
            have h1 := hok.rng i hlt
            have e1 : (s.1 i != -1) = decide (s.1 i ≥ 0) := by
              rw [Bool.eq_iff_iff]; simp only [bne_iff_ne, ne_eq, decide_eq_true_eq]; omega
            have e2 : (x i != -1) = decide (x i ≥ 0) := by
              rw [Bool.eq_iff_iff]; simp only [bne_iff_ne, ne_eq, decide_eq_true_eq]; omega
            unfold go1 at hgo
            rw [e1, e2] at hgo
            revert hgo
            cases s.2 i <;> cases decide (s.1 i ≥ 0) <;> cases decide (x i ≥ 0) <;> cases decide (x i < (no : Int)) <;> cases q (x i).toNat <;> simp
          refine evC_exit ?_
          refine then_exit ?_
          refine round_exit ?_
          refine block_exit ?_
          refine then_normal ?_
          refine evC_go (dec := []) (ks := [(0, 1), (0, 2), (0, 3), (0, 4), (0, 6), (0, 189), (1, 0), (1, 1), (1, 2), (1, 3), (1, 4), (2, 0), (3, 0)]) (ps := [(0 : Int) ≤ (↑i : Int), (↑i : Int) < (↑k : Int), (1 : Nat) = (1 : Nat), (0 : Int) ≤ (↑i : Int), (↑i : Int) < (↑k : Int), (1 : Nat) = (1 : Nat), List.all [!Prod.snd s i] id = true → (0 : Int) ≤ (↑i : Int), List.all [!Prod.snd s i] id = true → (↑i : Int) < (↑k : Int), List.all [!Prod.snd s i] id = true → (1 : Nat) = (1 : Nat), List.all [!Prod.snd s i] id = true → (0 : Int) ≤ (↑i : Int), List.all [!Prod.snd s i] id = true → (↑i : Int) < (↑k : Int), List.all [!Prod.snd s i] id = true → (1 : Nat) = (1 : Nat), List.all [bif bif bif !Prod.snd s i then decide (Prod.fst s i ≥ (0 : Int)) else false then decide (x i ≥ (0 : Int)) else false then decide (x i < (↑no : Int)) else false] id = true → (0 : Int) ≤ x i, List.all [bif bif bif !Prod.snd s i then decide (Prod.fst s i ≥ (0 : Int)) else false then decide (x i ≥ (0 : Int)) else false then decide (x i < (↑no : Int)) else false] id = true → x i < (↑no : Int), List.all [bif bif bif !Prod.snd s i then decide (Prod.fst s i ≥ (0 : Int)) else false then decide (x i ≥ (0 : Int)) else false then decide (x i < (↑no : Int)) else false] id = true → (1 : Nat) = (1 : Nat)]) (s' := ⟨[(0, 1, Cont.cell (AV.ptr 1 0)), (0, 2, Cont.cell (AV.bool false)), (0, 3, Cont.cell (AV.vs 2)), (0, 4, Cont.cell (AV.vs 3)), (0, 6, Cont.cell (AV.int IntKind.i64 (↑i : Int))), (0, 189, Cont.cell (AV.bool (bif bif bif bif bif !Prod.snd s i then decide (Prod.fst s i ≥ 0) else false then decide (x i ≥ 0) else false then decide (x i < (↑no : Int)) else false then q (Int.toNat (x i)) else false then !occ k (Prod.fst s) (x i) else false))), (1, 0, Cont.cell (AV.int IntKind.i64 c)), (1, 1, Cont.cell (AV.rs 1 no false (nB q))), (1, 2, Cont.cell (AV.rs 1 k false (nI w))), (1, 3, Cont.cell (AV.rs 1 k false (nI x))), (1, 4, Cont.top), (2, 0, Cont.vec 1 3 k (nI (Prod.fst s))), (3, 0, Cont.vec 1 4 k (nB (Prod.snd s)))], 308, 191⟩) (by kernel_rfl) (by kernel_rfl) ?_ ?_
          · simp only [All]
            repeat' apply And.intro
            all_goals first | trivial | omega | (intro h; trivial) | (intro h; omega) | (intro h; exact (hcx _ h).1) | (intro h; exact (hcx _ h).2)
          rw [hd]
          refine evC_if (q := false) (by kernel_rfl) (fun hc => ?_) (fun hc => ?_)
          · simp at hc
          clear hc
          refine evC_skip ?_
          refine block_normal ?_
          refine then_normal ?_
          refine evC_goL0 (dec := []) (ks := [(0, 1), (0, 2), (0, 3), (0, 4), (0, 6), (1, 0), (1, 1), (1, 2), (1, 3), (1, 4), (2, 0), (3, 0)]) (s' := ⟨[(0, 1, Cont.cell (AV.ptr 1 0)), (0, 2, Cont.cell (AV.bool false)), (0, 3, Cont.cell (AV.vs 2)), (0, 4, Cont.cell (AV.vs 3)), (0, 6, Cont.cell (AV.int IntKind.i64 (IntKind.i64.wrap ((↑i : Int) + 1)))), (1, 0, Cont.cell (AV.int IntKind.i64 c)), (1, 1, Cont.cell (AV.rs 1 no false (nB q))), (1, 2, Cont.cell (AV.rs 1 k false (nI w))), (1, 3, Cont.cell (AV.rs 1 k false (nI x))), (1, 4, Cont.top), (2, 0, Cont.vec 1 3 k (nI (Prod.fst s))), (3, 0, Cont.vec 1 4 k (nB (Prod.snd s)))], 332, 191⟩) (by kernel_rfl) (by kernel_rfl) ?_
          rw [wrap_add_one hlt (by omega)]
          refine round_normal (⟨i + 1, by omega⟩) (wk_go [1, 2, 3] rfl (by decide) rfl rfl ⟨⟨_, rfl, rfl⟩, ⟨_, rfl, rfl⟩, ⟨_, rfl, rfl⟩, ⟨_, rfl, rfl⟩, ⟨_, rfl, rfl⟩, ⟨_, rfl, rfl⟩, ⟨_, rfl, rfl⟩, ⟨_, rfl, rfl⟩, ⟨_, rfl, rfl⟩, ⟨_, rfl, trivial⟩, ⟨_, rfl, ⟨rfl, rfl, rfl, fun _ _ => rfl⟩⟩, ⟨_, rfl, ⟨rfl, rfl, rfl, fun _ _ => rfl⟩⟩, trivial⟩) ?_
          show k - (i + 1) < k - i; omega
      · refine evC_exit ?_
        refine then_exit ?_
        refine round_exit ?_
        refine block_exit ?_
        refine then_normal ?_
        refine evC_go0 (dec := []) (ks := [(0, 2)]) (s' := ⟨[(0, 2, Cont.cell (AV.bool true))], 52, 191⟩) (by kernel_rfl) (by kernel_rfl) ?_
        refine evC_ret ?_
        refine post_ret ?_
        refine ends_flat (vs := [AV.bool true]) (Nat.zero_lt_succ _) (by kernel_rfl) (flat_of _ (by kernel_rfl)) rfl ?_
        rfl
  · cases e

def sCrowdStill : Spec := fun args _ _ => match args with
  | [.agg [.int .i64 c, .rs 1 no false g, .rs 1 n false f, .rs 1 m false f2]] => some ⟨[(g = nB (G g) ∧ f = nI (W f) ∧ f2 = nI (W f2)) ∧ no ≤ maxLen ∧ n ≤ maxLen ∧ m ≤ maxLen], .bool true, [], []⟩
  | _ => none
theorem crowdStill_ok : SpecOK Try.prog 6 sCrowdStill := by
  refine spec_own (by kernel_rfl) T_ok (sget_cons few_ok (sget_cons settle_ok (sget_cons same_ok (sget_cons awake_ok sget_nil)))) Try.func6 rfl rfl fun args hr nb out e => ?_
  unfold sCrowdStill at e
  split at e
  · rename_i c no g n f m f2
    injection e with e; subst e
    refine ⟨(fun _ h => nomatch h), true, [crowd c no (G g) n (W f) m (W f2)], rfl, fun hs => ?_⟩
    obtain ⟨⟨h0, h1, h2⟩, h3, h4, h5⟩ := hs _ List.mem_cons_self
    rw [crowd_eq (r := fun _ => True) h0 h1 h2]
    refine ⟨.cons _ _ _ _ (.same _ _ (crowd_has _ _ _ _ _ _ _)) .nil, ?_⟩
    clear hs h0 h1 h2
    generalize W f = w
    generalize W f2 = x
    generalize G g = q
    have k1 := cut_le no 4100
    have k2 := cut_le n 66
    have k3 := cut_le m 66
    unfold crowd
    refine evC_go0 (dec := []) (ks := [(0, 1), (0, 2), (1, 0), (1, 1), (1, 2), (1, 3), (1, 4)]) (s' := ⟨[(0, 1, Cont.cell (AV.ptr 1 0)), (0, 2, Cont.cell (AV.bool false)), (1, 0, Cont.cell (AV.int IntKind.i64 c)), (1, 1, Cont.cell (AV.rs 1 no false (nB q))), (1, 2, Cont.cell (AV.rs 1 n false (nI w))), (1, 3, Cont.cell (AV.rs 1 m false (nI x))), (1, 4, Cont.top)], 17, 102⟩) (by kernel_rfl) (by kernel_rfl) ?_
    refine evC_go (dec := []) (ks := [(0, 1), (0, 2), (1, 0), (1, 1), (1, 2), (1, 3), (1, 4)]) (ps := [(nB q = nB (G (nB q)) ∧ nI w = nI (W (nI w)) ∧ nI x = nI (W (nI x))) ∧ no ≤ maxLen ∧ n ≤ maxLen ∧ m ≤ maxLen]) (s' := ⟨[(0, 1, Cont.cell (AV.ptr 1 0)), (0, 2, Cont.cell (AV.bool false)), (1, 0, Cont.cell (AV.int IntKind.i64 c)), (1, 1, Cont.cell (AV.rs 1 (cut no 4100) false (nB (G (nB q))))), (1, 2, Cont.cell (AV.rs 1 (cut n 66) false (nI (W (nI w))))), (1, 3, Cont.cell (AV.rs 1 (cut m 66) false (nI (W (nI x))))), (1, 4, Cont.top)], 41, 102⟩) (by kernel_rfl) (by kernel_rfl) ?_ ?_
    · exact ⟨⟨rfl, rfl, rfl⟩, h3, h4, h5⟩
    unfold maxLen at h3 h4 h5
    rw [W_nI w, W_nI x, G_nB q]
    generalize cut no 4100 = no at *
    generalize cut n 66 = n at *
    generalize cut m 66 = m at *
    refine evC_go (dec := []) (ks := [(0, 1), (0, 2), (0, 3), (0, 5), (1, 0), (1, 1), (1, 2), (1, 3), (1, 4), (105, 0)]) (ps := [(∀ (i : Nat), i < no → nB q i = nB (G (nB q)) i) ∧ (∀ (i : Nat), i < n → nI w i = nI (W (nI w)) i) ∧ (∀ (i : Nat), i < m → nI x i = nI (W (nI x)) i) ∧ no ≤ maxLen ∧ n ≤ maxLen ∧ m ≤ maxLen]) (s' := ⟨[(0, 1, Cont.cell (AV.ptr 1 0)), (0, 2, Cont.cell (AV.bool false)), (0, 3, Cont.cell (AV.vs 105)), (0, 5, Cont.cell (AV.int IntKind.i64 (chkF c no n m (W (nI w)) (W (nI x))))), (1, 0, Cont.cell (AV.int IntKind.i64 c)), (1, 1, Cont.cell (AV.rs 1 no false (nB q))), (1, 2, Cont.cell (AV.rs 1 n false (nI w))), (1, 3, Cont.cell (AV.rs 1 m false (nI x))), (1, 4, Cont.top), (105, 0, Cont.vec 1 3 (errN (chkF c no n m (W (nI w)) (W (nI x))) n) (nI (Prod.fst (setF (G (nB q)) (W (nI x)) n (W (nI w))))))], 169, 102⟩) (by kernel_rfl) (by kernel_rfl) ?_ ?_
    · (simp only [All]; (repeat' apply And.intro) <;> (try intro _) <;> (try intro _) <;> (repeat' apply And.intro) <;> (try intro _) <;> (try intro _) <;> first | trivial | assumption | exact .inr trivial | exact .inr rfl | omega | rfl | exact ⟨_, rfl, rfl⟩ | exact ⟨rfl, rfl⟩ | exact ⟨fun _ => rfl, fun _ => rfl⟩ | (unfold maxLen; omega) | (unfold i64R; first | omega | decide) | decide)
    rw [W_nI w, W_nI x, G_nB q]
    refine evC_seq ?_
    refine evC_go0 (dec := []) (ks := [(0, 1), (0, 2), (0, 3), (0, 31), (1, 0), (1, 1), (1, 2), (1, 3), (1, 4), (105, 0)]) (s' := ⟨[(0, 1, Cont.cell (AV.ptr 1 0)), (0, 2, Cont.cell (AV.bool false)), (0, 3, Cont.cell (AV.vs 105)), (0, 31, Cont.cell (AV.bool (chkF c no n m w x != 0))), (1, 0, Cont.cell (AV.int IntKind.i64 c)), (1, 1, Cont.cell (AV.rs 1 no false (nB q))), (1, 2, Cont.cell (AV.rs 1 n false (nI w))), (1, 3, Cont.cell (AV.rs 1 m false (nI x))), (1, 4, Cont.top), (105, 0, Cont.vec 1 3 (errN (chkF c no n m w x) n) (nI (Prod.fst (setF q x n w))))], 185, 102⟩) (by kernel_rfl) (by kernel_rfl) ?_
    refine evC_if (q := chkF c no n m w x != 0) (by kernel_rfl) (fun hc => ?_) (fun hc => ?_)
    · rw [errN_no hc]
      refine evC_go0 (dec := []) (ks := [(0, 1), (0, 2), (0, 3), (1, 0), (1, 1), (1, 2), (1, 3), (1, 4), (105, 0)]) (s' := ⟨[(0, 1, Cont.cell (AV.ptr 1 0)), (0, 2, Cont.cell (AV.bool true)), (0, 3, Cont.cell (AV.vs 105)), (1, 0, Cont.cell (AV.int IntKind.i64 c)), (1, 1, Cont.cell (AV.rs 1 no false (nB q))), (1, 2, Cont.cell (AV.rs 1 n false (nI w))), (1, 3, Cont.cell (AV.rs 1 m false (nI x))), (1, 4, Cont.top), (105, 0, Cont.vec 1 3 0 (nI (Prod.fst (setF q x n w))))], 241, 102⟩) (by kernel_rfl) (by kernel_rfl) ?_
      refine evC_ret ?_
      refine then_ret ?_
      refine post_ret ?_
      refine ends_flat (vs := [AV.bool true]) (Nat.zero_lt_succ _) (by kernel_rfl) (flat_of _ (by kernel_rfl)) rfl ?_
      refine congrArg AV.bool ?_
      simp
    · have hz : chkF c no n m w x = 0 := by simpa [bne] using hc
      rw [errN_yes hc]
      clear hc
      obtain ⟨⟨a1, a2, a3, a4, a5⟩, b1, b2⟩ := chk_zero hz
      have hok := setF_ok (q := q) hz
      have hfin := setF_fin (q := q) (x := x) (n := n) w
      subst a5
      generalize setF q x m w = s at *
      -- again with the same wishes
      have hz2 : chkF c no m m s.1 x = 0 := chk_of ⟨a1, a2, a3, a4, rfl⟩ (fun i hi => ⟨(hok.rng i hi).1, (hok.rng i hi).2, (b1 i hi).2.2.1, (b1 i hi).2.2.2⟩) hok.dist
      have hs2 : setF q x m s.1 = (s.1, fun _ => false) := setF_id fun i hi => by
        cases hg : go1 q x m (s.1, fun _ => false) i with
        | false => rfl
        | true =>
          obtain ⟨_, h2, h3, h4, h5⟩ := go1_spec.1 hg
          cases h6 : s.2 i with
          | true => exact absurd (hok.gone i hi h6).1 (h5 i hi)
          | false =>
            have := chg_go hfin hi
            rw [go1_spec.2 ⟨h6, h2, h3, h4, h5⟩] at this; cases this
      -- without wishes
      have hz3 : chkF c no m m s.1 (fun _ => -1) = 0 := chk_of ⟨a1, a2, a3, a4, rfl⟩ (fun i hi => ⟨(hok.rng i hi).1, (hok.rng i hi).2, by omega, by omega⟩) hok.dist
      have hs3 : setF q (fun _ => -1) m s.1 = (s.1, fun _ => false) := setF_id fun i hi => by
        unfold go1; simp
      have e1 : ∀ (k : Nat) (w : Nat → Int), sameF k k w w = true := fun k w => by
        unfold sameF; rw [all_true fun i _ => by simp]; simp
      refine evC_skip ?_
      refine then_normal ?_
      refine evC_go (dec := []) (ks := [(0, 1), (0, 2), (0, 3), (0, 6), (0, 8), (1, 0), (1, 1), (1, 2), (1, 3), (1, 4), (105, 0), (241, 0)]) (ps := [(∀ (i : Nat), i < no → nB q i = nB (G (nB q)) i) ∧ (∀ (i : Nat), i < m → nI (Prod.fst s) i = nI (W (nI (Prod.fst s))) i) ∧ (∀ (i : Nat), i < m → nI x i = nI (W (nI x)) i) ∧ no ≤ maxLen ∧ m ≤ maxLen ∧ m ≤ maxLen]) (s' := ⟨[(0, 1, Cont.cell (AV.ptr 1 0)), (0, 2, Cont.cell (AV.bool false)), (0, 3, Cont.cell (AV.vs 105)), (0, 6, Cont.cell (AV.vs 241)), (0, 8, Cont.cell (AV.int IntKind.i64 (chkF c no m m (W (nI (Prod.fst s))) (W (nI x))))), (1, 0, Cont.cell (AV.int IntKind.i64 c)), (1, 1, Cont.cell (AV.rs 1 no false (nB q))), (1, 2, Cont.cell (AV.rs 1 m false (nI w))), (1, 3, Cont.cell (AV.rs 1 m false (nI x))), (1, 4, Cont.top), (105, 0, Cont.vec 1 3 m (nI (Prod.fst s))), (241, 0, Cont.vec 1 3 (errN (chkF c no m m (W (nI (Prod.fst s))) (W (nI x))) m) (nI (Prod.fst (setF (G (nB q)) (W (nI x)) m (W (nI (Prod.fst s)))))))], 305, 102⟩) (by kernel_rfl) (by kernel_rfl) ?_ ?_
      · (simp only [All]; (repeat' apply And.intro) <;> (try intro _) <;> (try intro _) <;> (repeat' apply And.intro) <;> (try intro _) <;> (try intro _) <;> first | trivial | assumption | exact .inr trivial | exact .inr rfl | omega | rfl | exact ⟨_, rfl, rfl⟩ | exact ⟨rfl, rfl⟩ | exact ⟨fun _ => rfl, fun _ => rfl⟩ | (unfold maxLen; omega) | (unfold i64R; first | omega | decide) | decide)
      rw [W_nI s.1, W_nI x, G_nB q, hz2, hs2]
      refine evC_go (dec := []) (ks := [(0, 1), (0, 2), (0, 3), (0, 6), (0, 8), (0, 9), (1, 0), (1, 1), (1, 2), (1, 3), (1, 4), (105, 0), (241, 0), (321, 0)]) (ps := [(0 : Int) ≤ (↑m : Int), (↑m : Int) = (↑m : Int), (↑(8 : Nat) : Int) * (↑m : Int) ≤ (281474976710656 : Int), (↑m : Int) ≤ (9223372036854775807 : Int)]) (s' := ⟨[(0, 1, Cont.cell (AV.ptr 1 0)), (0, 2, Cont.cell (AV.bool false)), (0, 3, Cont.cell (AV.vs 105)), (0, 6, Cont.cell (AV.vs 241)), (0, 8, Cont.cell (AV.int IntKind.i64 0)), (0, 9, Cont.cell (AV.vs 321)), (1, 0, Cont.cell (AV.int IntKind.i64 c)), (1, 1, Cont.cell (AV.rs 1 no false (nB q))), (1, 2, Cont.cell (AV.rs 1 m false (nI w))), (1, 3, Cont.cell (AV.rs 1 m false (nI x))), (1, 4, Cont.top), (105, 0, Cont.vec 1 3 m (nI (Prod.fst s))), (241, 0, Cont.vec 1 3 (errN 0 m) (nI (Prod.fst s))), (321, 0, Cont.vec 1 3 m fun x => AV.int IntKind.i64 0)], 337, 102⟩) (by kernel_rfl) (by kernel_rfl) ?_ ?_
      · (simp only [All]; (repeat' apply And.intro) <;> (try intro _) <;> (try intro _) <;> (repeat' apply And.intro) <;> (try intro _) <;> (try intro _) <;> first | trivial | assumption | exact .inr trivial | exact .inr rfl | omega | rfl | exact ⟨_, rfl, rfl⟩ | exact ⟨rfl, rfl⟩ | exact ⟨fun _ => rfl, fun _ => rfl⟩ | (unfold maxLen; omega) | (unfold i64R; first | omega | decide) | decide)
      refine evC_seq ?_
      refine evC_go0 (dec := []) (ks := [(0, 1), (0, 2), (0, 3), (0, 6), (0, 8), (0, 9), (0, 10), (1, 0), (1, 1), (1, 2), (1, 3), (1, 4), (105, 0), (241, 0), (321, 0)]) (s' := ⟨[(0, 1, Cont.cell (AV.ptr 1 0)), (0, 2, Cont.cell (AV.bool false)), (0, 3, Cont.cell (AV.vs 105)), (0, 6, Cont.cell (AV.vs 241)), (0, 8, Cont.cell (AV.int IntKind.i64 0)), (0, 9, Cont.cell (AV.vs 321)), (0, 10, Cont.cell (AV.int IntKind.i64 0)), (1, 0, Cont.cell (AV.int IntKind.i64 c)), (1, 1, Cont.cell (AV.rs 1 no false (nB q))), (1, 2, Cont.cell (AV.rs 1 m false (nI w))), (1, 3, Cont.cell (AV.rs 1 m false (nI x))), (1, 4, Cont.top), (105, 0, Cont.vec 1 3 m (nI (Prod.fst s))), (241, 0, Cont.vec 1 3 (errN 0 m) (nI (Prod.fst s))), (321, 0, Cont.vec 1 3 m fun x => AV.int IntKind.i64 0)], 345, 102⟩) (by kernel_rfl) (by kernel_rfl) ?_
      refine evC_block ?_
      refine evC_loop (ι := { k : Nat // k ≤ m }) (fun y => ⟨[(0, 1, Cont.cell (AV.ptr 1 0)), (0, 2, Cont.cell (AV.bool false)), (0, 3, Cont.cell (AV.vs 2)), (0, 6, Cont.cell (AV.vs 3)), (0, 8, Cont.cell (AV.int IntKind.i64 0)), (0, 9, Cont.cell (AV.vs 4)), (0, 10, .cell (.int .i64 (y.1 : Nat))), (1, 0, Cont.cell (AV.int IntKind.i64 c)), (1, 1, Cont.cell (AV.rs 1 no false (nB q))), (1, 2, Cont.cell (AV.rs 1 m false (nI w))), (1, 3, Cont.cell (AV.rs 1 m false (nI x))), (1, 4, Cont.top), (2, 0, Cont.vec 1 3 m (nI (Prod.fst s))), (3, 0, Cont.vec 1 3 (errN 0 m) (nI (Prod.fst s))), (4, 0, .vec 1 3 m (nI (fun j => bif Nat.blt j y.1 then -1 else 0)))], 5, 102⟩) (fun y => m - y.1) ⟨0, Nat.zero_le _⟩ (wk_go [1, 105, 241, 321] rfl (by decide) rfl rfl ⟨⟨_, rfl, rfl⟩, ⟨_, rfl, rfl⟩, ⟨_, rfl, rfl⟩, ⟨_, rfl, rfl⟩, ⟨_, rfl, rfl⟩, ⟨_, rfl, rfl⟩, ⟨_, rfl, rfl⟩, ⟨_, rfl, rfl⟩, ⟨_, rfl, rfl⟩, ⟨_, rfl, rfl⟩, ⟨_, rfl, rfl⟩, ⟨_, rfl, trivial⟩, ⟨_, rfl, rfl, rfl, rfl, fun _ _ => rfl⟩, ⟨_, rfl, rfl, rfl, rfl, fun _ _ => rfl⟩, ⟨_, rfl, ⟨rfl, rfl, rfl, fun _ _ => rfl⟩⟩, trivial⟩) ?_
      rintro ⟨k, hk⟩
      dsimp only at hk ⊢
      refine evC_seq ?_
      refine evC_go0 (dec := []) (ks := [(0, 1), (0, 2), (0, 3), (0, 6), (0, 8), (0, 9), (0, 10), (0, 56), (1, 0), (1, 1), (1, 2), (1, 3), (1, 4), (2, 0), (3, 0), (4, 0)]) (s' := ⟨[(0, 1, Cont.cell (AV.ptr 1 0)), (0, 2, Cont.cell (AV.bool false)), (0, 3, Cont.cell (AV.vs 2)), (0, 6, Cont.cell (AV.vs 3)), (0, 8, Cont.cell (AV.int IntKind.i64 0)), (0, 9, Cont.cell (AV.vs 4)), (0, 10, Cont.cell (AV.int IntKind.i64 (↑k : Int))), (0, 56, Cont.cell (AV.bool (decide ((↑k : Int) < (↑m : Int))))), (1, 0, Cont.cell (AV.int IntKind.i64 c)), (1, 1, Cont.cell (AV.rs 1 no false (nB q))), (1, 2, Cont.cell (AV.rs 1 m false (nI w))), (1, 3, Cont.cell (AV.rs 1 m false (nI x))), (1, 4, Cont.top), (2, 0, Cont.vec 1 3 m (nI (Prod.fst s))), (3, 0, Cont.vec 1 3 (errN 0 m) (nI (Prod.fst s))), (4, 0, Cont.vec 1 3 m (nI fun j => bif Nat.blt j k then -1 else 0))], 37, 102⟩) (by kernel_rfl) (by kernel_rfl) ?_
      refine evC_if (q := decide ((↑k : Int) < (↑m : Int))) (by kernel_rfl) (fun hc => ?_) (fun hc => ?_)
      · have hlt : k < m := by have := of_decide_eq_true hc; omega
        clear hc
        refine evC_skip ?_
        refine then_normal ?_
        refine evC_seq ?_
        refine evC_block ?_
        refine evC_goL (dec := []) (ks := [(0, 1), (0, 2), (0, 3), (0, 6), (0, 8), (0, 9), (0, 10), (1, 0), (1, 1), (1, 2), (1, 3), (1, 4), (2, 0), (3, 0), (4, 0)]) (ps := [(0 : Int) ≤ (↑k : Int), (↑k : Int) < (↑m : Int), (1 : Nat) = (1 : Nat), (0 : Int) ≤ (↑k : Int), (↑k : Int) < (↑m : Int), (1 : Nat) = (1 : Nat), widthC (AV.cells (AV.int IntKind.i64 (-1 : Int))) = (1 : Nat)]) (s' := ⟨[(0, 1, Cont.cell (AV.ptr 1 0)), (0, 2, Cont.cell (AV.bool false)), (0, 3, Cont.cell (AV.vs 2)), (0, 6, Cont.cell (AV.vs 3)), (0, 8, Cont.cell (AV.int IntKind.i64 0)), (0, 9, Cont.cell (AV.vs 4)), (0, 10, Cont.cell (AV.int IntKind.i64 (↑k : Int))), (1, 0, Cont.cell (AV.int IntKind.i64 c)), (1, 1, Cont.cell (AV.rs 1 no false (nB q))), (1, 2, Cont.cell (AV.rs 1 m false (nI w))), (1, 3, Cont.cell (AV.rs 1 m false (nI x))), (1, 4, Cont.top), (2, 0, Cont.vec 1 3 m (nI (Prod.fst s))), (3, 0, Cont.vec 1 3 (errN 0 m) (nI (Prod.fst s))), (4, 0, Cont.vec 1 3 m fun j => bif j == k then AV.int IntKind.i64 (-1) else nI (fun j => bif Nat.blt j k then -1 else 0) j)], 69, 102⟩) (by kernel_rfl) (by kernel_rfl) ?_ ?_
        · (simp only [All]; (repeat' apply And.intro) <;> (try intro _) <;> (try intro _) <;> (repeat' apply And.intro) <;> (try intro _) <;> (try intro _) <;> first | trivial | assumption | exact .inr trivial | exact .inr rfl | omega | rfl | exact ⟨_, rfl, rfl⟩ | exact ⟨rfl, rfl⟩ | exact ⟨fun _ => rfl, fun _ => rfl⟩ | (unfold maxLen; omega) | (unfold i64R; first | omega | decide) | decide)
        refine block_normal ?_
        refine then_normal ?_
        refine evC_goL0 (dec := []) (ks := [(0, 1), (0, 2), (0, 3), (0, 6), (0, 8), (0, 9), (0, 10), (1, 0), (1, 1), (1, 2), (1, 3), (1, 4), (2, 0), (3, 0), (4, 0)]) (s' := ⟨[(0, 1, Cont.cell (AV.ptr 1 0)), (0, 2, Cont.cell (AV.bool false)), (0, 3, Cont.cell (AV.vs 2)), (0, 6, Cont.cell (AV.vs 3)), (0, 8, Cont.cell (AV.int IntKind.i64 0)), (0, 9, Cont.cell (AV.vs 4)), (0, 10, Cont.cell (AV.int IntKind.i64 (IntKind.i64.wrap ((↑k : Int) + 1)))), (1, 0, Cont.cell (AV.int IntKind.i64 c)), (1, 1, Cont.cell (AV.rs 1 no false (nB q))), (1, 2, Cont.cell (AV.rs 1 m false (nI w))), (1, 3, Cont.cell (AV.rs 1 m false (nI x))), (1, 4, Cont.top), (2, 0, Cont.vec 1 3 m (nI (Prod.fst s))), (3, 0, Cont.vec 1 3 (errN 0 m) (nI (Prod.fst s))), (4, 0, Cont.vec 1 3 m fun j => bif j == k then AV.int IntKind.i64 (-1) else nI (fun j => bif Nat.blt j k then -1 else 0) j)], 93, 102⟩) (by kernel_rfl) (by kernel_rfl) ?_
        rw [wrap_add_one hlt (by omega)]
        refine round_normal (⟨k + 1, by omega⟩) (wk_go [1, 2, 3, 4] rfl (by decide) rfl rfl ⟨⟨_, rfl, rfl⟩, ⟨_, rfl, rfl⟩, ⟨_, rfl, rfl⟩, ⟨_, rfl, rfl⟩, ⟨_, rfl, rfl⟩, ⟨_, rfl, rfl⟩, ⟨_, rfl, rfl⟩, ⟨_, rfl, rfl⟩, ⟨_, rfl, rfl⟩, ⟨_, rfl, rfl⟩, ⟨_, rfl, rfl⟩, ⟨_, rfl, trivial⟩, ⟨_, rfl, ⟨rfl, rfl, rfl, fun _ _ => rfl⟩⟩, ⟨_, rfl, ⟨rfl, rfl, rfl, fun _ _ => rfl⟩⟩, ⟨_, rfl, ?_⟩, trivial⟩) ?_
        · refine ⟨rfl, rfl, rfl, fun j hj => ?_⟩
          show (bif j == k then AV.int .i64 (-1) else AV.int .i64 (bif Nat.blt j k then -1 else 0)) = AV.int .i64 (bif Nat.blt j (k + 1) then -1 else 0)
          by_cases h1 : j = k
          · subst h1
            have : Nat.blt j (j + 1) = true := by simp [Nat.blt_eq]
            simp [this]
          · have h2 : (j == k) = false := by simpa using h1
            rw [h2, cond_false]
            congr 1
            by_cases h3 : j < k
            · have h4 : Nat.blt j k = true := by simpa [Nat.blt_eq] using h3
              have h5 : Nat.blt j (k + 1) = true := by simp [Nat.blt_eq]; omega
              rw [h4, h5]
            · have h4 : Nat.blt j k = false := by
                cases e : Nat.blt j k with
                | false => rfl
                | true => exact absurd (by simpa [Nat.blt_eq] using e) h3
              have h5 : Nat.blt j (k + 1) = false := by
                cases e : Nat.blt j (k + 1) with
                | false => rfl
                | true => have : j < k + 1 := by simpa [Nat.blt_eq] using e
                          omega
              rw [h4, h5]
        · show m - (k + 1) < m - k; omega
      · have hlt : k = m := by have := of_decide_eq_false hc; omega
        subst hlt
        clear hc
        refine evC_wk (s' := ⟨[(0, 1, Cont.cell (AV.ptr 1 0)), (0, 2, Cont.cell (AV.bool false)), (0, 3, Cont.cell (AV.vs 2)), (0, 6, Cont.cell (AV.vs 3)), (0, 8, Cont.cell (AV.int IntKind.i64 0)), (0, 9, Cont.cell (AV.vs 4)), (0, 10, Cont.cell (AV.int IntKind.i64 (↑k : Int))), (0, 56, Cont.cell (AV.bool (decide ((↑k : Int) < (↑k : Int))))), (1, 0, Cont.cell (AV.int IntKind.i64 c)), (1, 1, Cont.cell (AV.rs 1 no false (nB q))), (1, 2, Cont.cell (AV.rs 1 k false (nI w))), (1, 3, Cont.cell (AV.rs 1 k false (nI x))), (1, 4, Cont.top), (2, 0, Cont.vec 1 3 k (nI (Prod.fst s))), (3, 0, Cont.vec 1 3 (errN 0 k) (nI (Prod.fst s))), (4, 0, .vec 1 3 k (nI (fun _ => -1)))], 5, 102⟩) _ (wk_go [1, 2, 3, 4] rfl (by decide) rfl rfl ⟨⟨_, rfl, rfl⟩, ⟨_, rfl, rfl⟩, ⟨_, rfl, rfl⟩, ⟨_, rfl, rfl⟩, ⟨_, rfl, rfl⟩, ⟨_, rfl, rfl⟩, ⟨_, rfl, rfl⟩, ⟨_, rfl, rfl⟩, ⟨_, rfl, rfl⟩, ⟨_, rfl, rfl⟩, ⟨_, rfl, rfl⟩, ⟨_, rfl, rfl⟩, ⟨_, rfl, trivial⟩, ⟨_, rfl, rfl, rfl, rfl, fun _ _ => rfl⟩, ⟨_, rfl, rfl, rfl, rfl, fun _ _ => rfl⟩, ⟨_, rfl, ?_⟩, trivial⟩) ?_
        · refine ⟨rfl, rfl, rfl, fun j hj => ?_⟩
          have h4 : Nat.blt j k = true := by simpa [Nat.blt_eq] using hj
          show AV.int .i64 (bif Nat.blt j k then -1 else 0) = AV.int .i64 (-1)
          rw [h4]; rfl
        refine evC_exit ?_
        refine then_exit ?_
        refine round_exit ?_
        refine block_exit ?_
        refine then_normal ?_
        refine evC_go (dec := []) (ks := [(0, 2), (0, 3), (0, 6), (0, 8), (0, 11), (0, 12), (0, 13), (2, 0), (3, 0), (53, 0), (54, 0)]) (ps := [(∀ (i : Nat), i < no → nB q i = nB (G (nB q)) i) ∧ (∀ (i : Nat), i < k → nI (Prod.fst s) i = nI (W (nI (Prod.fst s))) i) ∧ (∀ (i : Nat), i < k → nI (fun x => (-1 : Int)) i = nI (W (nI fun x => (-1 : Int))) i) ∧ no ≤ maxLen ∧ k ≤ maxLen ∧ k ≤ maxLen]) (s' := ⟨[(0, 2, Cont.cell (AV.bool false)), (0, 3, Cont.cell (AV.vs 2)), (0, 6, Cont.cell (AV.vs 3)), (0, 8, Cont.cell (AV.int IntKind.i64 0)), (0, 11, Cont.cell (AV.vs 53)), (0, 12, Cont.cell (AV.vs 54)), (0, 13, Cont.cell (AV.int IntKind.i64 (chkF c no k k (W (nI (Prod.fst s))) (W (nI fun x => -1))))), (2, 0, Cont.vec 1 3 k (nI (Prod.fst s))), (3, 0, Cont.vec 1 3 (errN 0 k) (nI (Prod.fst s))), (53, 0, Cont.vec 1 3 (errN (chkF c no k k (W (nI (Prod.fst s))) (W (nI fun x => -1))) k) (nI (Prod.fst (setF (G (nB q)) (W (nI fun x => -1)) k (W (nI (Prod.fst s))))))), (54, 0, Cont.vec 1 4 (errN (chkF c no k k (W (nI (Prod.fst s))) (W (nI fun x => -1))) k) (nB (Prod.snd (setF (G (nB q)) (W (nI fun x => -1)) k (W (nI (Prod.fst s)))))))], 117, 102⟩) (by kernel_rfl) (by kernel_rfl) ?_ ?_
        · (simp only [All]; (repeat' apply And.intro) <;> (try intro _) <;> (try intro _) <;> (repeat' apply And.intro) <;> (try intro _) <;> (try intro _) <;> first | trivial | assumption | exact .inr trivial | exact .inr rfl | omega | rfl | exact ⟨_, rfl, rfl⟩ | exact ⟨rfl, rfl⟩ | exact ⟨fun _ => rfl, fun _ => rfl⟩ | (unfold maxLen; omega) | (unfold i64R; first | omega | decide) | decide)
        rw [W_nI s.1, W_nI (fun _ => -1), G_nB q, hz3, hs3]
        have e4 : errN 0 k = k := rfl
        rw [e4]
        refine evC_seq ?_
        refine evC_go0 (dec := []) (ks := [(0, 2), (0, 3), (0, 6), (0, 8), (0, 11), (0, 12), (0, 13), (0, 14), (2, 0), (3, 0), (53, 0), (54, 0)]) (s' := ⟨[(0, 2, Cont.cell (AV.bool false)), (0, 3, Cont.cell (AV.vs 2)), (0, 6, Cont.cell (AV.vs 3)), (0, 8, Cont.cell (AV.int IntKind.i64 0)), (0, 11, Cont.cell (AV.vs 53)), (0, 12, Cont.cell (AV.vs 54)), (0, 13, Cont.cell (AV.int IntKind.i64 0)), (0, 14, Cont.cell (AV.int IntKind.i64 0)), (2, 0, Cont.vec 1 3 k (nI (Prod.fst s))), (3, 0, Cont.vec 1 3 k (nI (Prod.fst s))), (53, 0, Cont.vec 1 3 k (nI (Prod.fst s))), (54, 0, Cont.vec 1 4 k (nB fun x => false))], 125, 102⟩) (by kernel_rfl) (by kernel_rfl) ?_
        refine evC_block ?_
        refine evC_loop (ι := { i : Nat // i ≤ k }) (fun y => ⟨[(0, 2, Cont.cell (AV.bool false)), (0, 3, Cont.cell (AV.vs 1)), (0, 6, Cont.cell (AV.vs 2)), (0, 8, Cont.cell (AV.int IntKind.i64 0)), (0, 11, Cont.cell (AV.vs 3)), (0, 12, Cont.cell (AV.vs 4)), (0, 13, Cont.cell (AV.int IntKind.i64 0)), (0, 14, .cell (.int .i64 (y.1 : Nat))), (1, 0, Cont.vec 1 3 k (nI (Prod.fst s))), (2, 0, Cont.vec 1 3 k (nI (Prod.fst s))), (3, 0, Cont.vec 1 3 k (nI (Prod.fst s))), (4, 0, Cont.vec 1 4 k (nB fun x => false))], 5, 102⟩) (fun y => k - y.1) ⟨0, Nat.zero_le _⟩ (wk_go [2, 3, 53, 54] rfl (by decide) rfl rfl ⟨⟨_, rfl, rfl⟩, ⟨_, rfl, rfl⟩, ⟨_, rfl, rfl⟩, ⟨_, rfl, rfl⟩, ⟨_, rfl, rfl⟩, ⟨_, rfl, rfl⟩, ⟨_, rfl, rfl⟩, ⟨_, rfl, rfl⟩, ⟨_, rfl, rfl, rfl, rfl, fun _ _ => rfl⟩, ⟨_, rfl, rfl, rfl, rfl, fun _ _ => rfl⟩, ⟨_, rfl, rfl, rfl, rfl, fun _ _ => rfl⟩, ⟨_, rfl, rfl, rfl, rfl, fun _ _ => rfl⟩, trivial⟩) ?_
        rintro ⟨i, hi⟩
        dsimp only at hi ⊢
        refine evC_seq ?_
        refine evC_go0 (dec := []) (ks := [(0, 2), (0, 3), (0, 6), (0, 8), (0, 11), (0, 12), (0, 13), (0, 14), (0, 76), (1, 0), (2, 0), (3, 0), (4, 0)]) (s' := ⟨[(0, 2, Cont.cell (AV.bool false)), (0, 3, Cont.cell (AV.vs 1)), (0, 6, Cont.cell (AV.vs 2)), (0, 8, Cont.cell (AV.int IntKind.i64 0)), (0, 11, Cont.cell (AV.vs 3)), (0, 12, Cont.cell (AV.vs 4)), (0, 13, Cont.cell (AV.int IntKind.i64 0)), (0, 14, Cont.cell (AV.int IntKind.i64 (↑i : Int))), (0, 76, Cont.cell (AV.bool (decide ((↑i : Int) < (↑k : Int))))), (1, 0, Cont.vec 1 3 k (nI (Prod.fst s))), (2, 0, Cont.vec 1 3 k (nI (Prod.fst s))), (3, 0, Cont.vec 1 3 k (nI (Prod.fst s))), (4, 0, Cont.vec 1 4 k (nB fun x => false))], 37, 102⟩) (by kernel_rfl) (by kernel_rfl) ?_
        refine evC_if (q := decide ((↑i : Int) < (↑k : Int))) (by kernel_rfl) (fun hc => ?_) (fun hc => ?_)
        · have hlt : i < k := by have := of_decide_eq_true hc; omega
          clear hc
          refine evC_skip ?_
          refine then_normal ?_
          refine evC_seq ?_
          refine evC_block ?_
          refine evC_go (dec := []) (ks := [(0, 2), (0, 3), (0, 6), (0, 8), (0, 11), (0, 12), (0, 13), (0, 14), (0, 82), (1, 0), (2, 0), (3, 0), (4, 0)]) (ps := [(0 : Int) ≤ (↑i : Int), (↑i : Int) < (↑k : Int), (1 : Nat) = (1 : Nat), (0 : Int) ≤ (↑i : Int), (↑i : Int) < (↑k : Int), (1 : Nat) = (1 : Nat)]) (s' := ⟨[(0, 2, Cont.cell (AV.bool false)), (0, 3, Cont.cell (AV.vs 1)), (0, 6, Cont.cell (AV.vs 2)), (0, 8, Cont.cell (AV.int IntKind.i64 0)), (0, 11, Cont.cell (AV.vs 3)), (0, 12, Cont.cell (AV.vs 4)), (0, 13, Cont.cell (AV.int IntKind.i64 0)), (0, 14, Cont.cell (AV.int IntKind.i64 (↑i : Int))), (0, 82, Cont.cell (AV.bool false)), (1, 0, Cont.vec 1 3 k (nI (Prod.fst s))), (2, 0, Cont.vec 1 3 k (nI (Prod.fst s))), (3, 0, Cont.vec 1 3 k (nI (Prod.fst s))), (4, 0, Cont.vec 1 4 k (nB fun x => false))], 69, 102⟩) (by kernel_rfl) (by kernel_rfl) ?_ ?_
          · (simp only [All]; (repeat' apply And.intro) <;> (try intro _) <;> (try intro _) <;> (repeat' apply And.intro) <;> (try intro _) <;> (try intro _) <;> first | trivial | assumption | exact .inr trivial | exact .inr rfl | omega | rfl | exact ⟨_, rfl, rfl⟩ | exact ⟨rfl, rfl⟩ | exact ⟨fun _ => rfl, fun _ => rfl⟩ | (unfold maxLen; omega) | (unfold i64R; first | omega | decide) | decide)
          refine evC_if (q := false) (by kernel_rfl) (fun hc => ?_) (fun hc => ?_)
          · cases hc
          clear hc
          refine evC_skip ?_
          refine block_normal ?_
          refine then_normal ?_
          refine evC_goL0 (dec := []) (ks := [(0, 2), (0, 3), (0, 6), (0, 8), (0, 11), (0, 12), (0, 13), (0, 14), (1, 0), (2, 0), (3, 0), (4, 0)]) (s' := ⟨[(0, 2, Cont.cell (AV.bool false)), (0, 3, Cont.cell (AV.vs 1)), (0, 6, Cont.cell (AV.vs 2)), (0, 8, Cont.cell (AV.int IntKind.i64 0)), (0, 11, Cont.cell (AV.vs 3)), (0, 12, Cont.cell (AV.vs 4)), (0, 13, Cont.cell (AV.int IntKind.i64 0)), (0, 14, Cont.cell (AV.int IntKind.i64 (IntKind.i64.wrap ((↑i : Int) + 1)))), (1, 0, Cont.vec 1 3 k (nI (Prod.fst s))), (2, 0, Cont.vec 1 3 k (nI (Prod.fst s))), (3, 0, Cont.vec 1 3 k (nI (Prod.fst s))), (4, 0, Cont.vec 1 4 k (nB fun x => false))], 93, 102⟩) (by kernel_rfl) (by kernel_rfl) ?_
          rw [wrap_add_one hlt (by omega)]
          refine round_normal (⟨i + 1, by omega⟩) (wk_go [1, 2, 3, 4] rfl (by decide) rfl rfl ⟨⟨_, rfl, rfl⟩, ⟨_, rfl, rfl⟩, ⟨_, rfl, rfl⟩, ⟨_, rfl, rfl⟩, ⟨_, rfl, rfl⟩, ⟨_, rfl, rfl⟩, ⟨_, rfl, rfl⟩, ⟨_, rfl, rfl⟩, ⟨_, rfl, ⟨rfl, rfl, rfl, fun _ _ => rfl⟩⟩, ⟨_, rfl, ⟨rfl, rfl, rfl, fun _ _ => rfl⟩⟩, ⟨_, rfl, ⟨rfl, rfl, rfl, fun _ _ => rfl⟩⟩, ⟨_, rfl, ⟨rfl, rfl, rfl, fun _ _ => rfl⟩⟩, trivial⟩) ?_
          show k - (i + 1) < k - i; omega
        · clear hc
          refine evC_exit ?_
          refine then_exit ?_
          refine round_exit ?_
          refine block_exit ?_
          refine then_normal ?_
          refine evC_go (dec := []) (ks := [(0, 2)]) (ps := [List.all [(0 : Int) == (0 : Int)] id = true → (∀ (i : Nat), i < k → nI (Prod.fst s) i = nI (W (nI (Prod.fst s))) i) ∧ (∀ (i : Nat), i < k → nI (Prod.fst s) i = nI (W (nI (Prod.fst s))) i) ∧ k ≤ maxLen ∧ k ≤ maxLen, List.all [bif bif (0 : Int) == (0 : Int) then sameF k k (W (nI (Prod.fst s))) (W (nI (Prod.fst s))) else false then (0 : Int) == (0 : Int) else false] id = true → (∀ (i : Nat), i < k → nI (Prod.fst s) i = nI (W (nI (Prod.fst s))) i) ∧ (∀ (i : Nat), i < k → nI (Prod.fst s) i = nI (W (nI (Prod.fst s))) i) ∧ k ≤ maxLen ∧ k ≤ maxLen]) (s' := ⟨[(0, 2, Cont.cell (AV.bool (bif bif bif bif 0 == 0 then sameF k k (W (nI (Prod.fst s))) (W (nI (Prod.fst s))) else false then 0 == 0 else false then sameF k k (W (nI (Prod.fst s))) (W (nI (Prod.fst s))) else false then true else false)))], 197, 102⟩) (by kernel_rfl) (by kernel_rfl) ?_ ?_
          · (simp only [All]; (repeat' apply And.intro) <;> (try intro _) <;> (try intro _) <;> (repeat' apply And.intro) <;> (try intro _) <;> (try intro _) <;> first | trivial | assumption | exact .inr trivial | exact .inr rfl | omega | rfl | exact ⟨_, rfl, rfl⟩ | exact ⟨rfl, rfl⟩ | exact ⟨fun _ => rfl, fun _ => rfl⟩ | (unfold maxLen; omega) | (unfold i64R; first | omega | decide) | decide)
          refine evC_ret ?_
          refine post_ret ?_
          refine ends_flat (vs := [AV.bool (bif bif bif bif 0 == 0 then sameF k k (W (nI (Prod.fst s))) (W (nI (Prod.fst s))) else false then 0 == 0 else false then sameF k k (W (nI (Prod.fst s))) (W (nI (Prod.fst s))) else false then true else false)]) (Nat.zero_lt_succ _) (by kernel_rfl) (flat_of _ (by kernel_rfl)) rfl ?_
          refine congrArg AV.bool ?_
          rw [W_nI s.1, e1]
          rfl
  · cases e
end Go.Eng.S15
