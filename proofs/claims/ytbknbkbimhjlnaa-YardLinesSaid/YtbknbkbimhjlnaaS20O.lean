/- Seat 20: the law YardLines, walked. -/
import Derived.Test.YtbknbkbimhjlnaaEngX
import Derived.Test.YtbknbkbimhjlnaaS20N
set_option linter.unusedSimpArgs false
set_option linter.unusedVariables false
namespace Go.Eng.S20
open Go.Proofs Go.IntWalk
set_option maxRecDepth 10000

theorem nI_cut (q : Nat → Int) : (fun i => nI q (Int.toNat 0 + i)) = nI q := funext fun i => by simp
def cut (n k : Nat) : Nat := bif Nat.blt k n then k else n
theorem blt_no {a b : Nat} (h : ¬ a < b) : Nat.blt a b = false := by
  cases e : Nat.blt a b with
  | false => rfl
  | true => exact absurd (by simpa [Nat.blt_eq] using e) h
theorem blt_yes {a b : Nat} (h : a < b) : Nat.blt a b = true := by simpa [Nat.blt_eq] using h
theorem cut_le (n k : Nat) : cut n k ≤ k ∧ cut n k ≤ n := by
  unfold cut
  by_cases h : k < n
  · rw [blt_yes h]; simp; omega
  · rw [blt_no h]; simp; omega
theorem cut_yes {n k : Nat} (h : decide ((n : Int) > (k : Int)) = true) : cut n k = k := by
  have : k < n := by have := of_decide_eq_true h; omega
  unfold cut; rw [blt_yes this]; rfl
theorem cut_no {n k : Nat} (h : decide ((n : Int) > (k : Int)) = false) : cut n k = n := by
  have : ¬ k < n := by have := of_decide_eq_false h; omega
  unfold cut; rw [blt_no this]; rfl
def rm (n : Nat) (w : Nat → Int) (i : Nat) : Int := bif Nat.blt i n then w i else 99
theorem rm_lt {n i : Nat} {w : Nat → Int} (h : i < n) : rm n w i = w i := by unfold rm; rw [blt_yes h]; rfl
theorem rm_ge {n i : Nat} {w : Nat → Int} (h : ¬ i < n) : rm n w i = 99 := by unfold rm; rw [blt_no h]; rfl
theorem all_congr {n : Nat} {p q : Nat → Bool} (h : ∀ i, i < n → p i = q i) : (List.range n).all p = (List.range n).all q := by
  cases e : (List.range n).all q with
  | true => exact all_true fun i hi => (h i hi).trans (all_get e hi)
  | false =>
    cases e2 : (List.range n).all p with
    | false => rfl
    | true =>
      have : (List.range n).all q = true := all_true fun i hi => (h i hi).symm.trans (all_get e2 hi)
      rw [e] at this; cases this
theorem line_rm (n : Nat) (w : Nat → Int) : lineF n (rm n w) = lineF n w := by
  unfold lineF
  rw [all_congr fun i hi => by rw [rm_lt hi]]
theorem qE_rm (n : Nat) (w : Nat → Int) (k : Int) : qE n (rm n w) k = qE n w k := by unfold qE; rw [line_rm]
theorem sE_rm (n : Nat) (w : Nat → Int) : sE n (rm n w) = sE n w := by unfold sE; rw [line_rm]
theorem qW_rm (n : Nat) (w : Nat → Int) (k : Int) : qW n (rm n w) k = qW n w k := by
  funext i
  unfold qW rm
  cases Nat.blt i n <;> rfl

def sYardLines : Spec := fun args hr nb => match args with
  | [.rs 1 n false f, .int .i64 k] => some ⟨[(∀ i, i < n → f i = nI (W f) i) ∧ n ≤ maxLen, i64R k], .bool true, [], []⟩
  | _ => none
theorem yardLines_ok : SpecOK Try.prog 7 sYardLines := by
  refine spec_own (by kernel_rfl) T_ok (sget_cons queue_ok (sget_cons shift_ok (sget_cons refLine_ok (sget_cons awake_ok sget_nil)))) Try.func7 rfl rfl fun args hr nb out e => ?_
  unfold sYardLines at e
  split at e
  · rename_i n f k
    injection e with e; subst e
    refine ⟨(fun _ h => nomatch h), true, [.rs 1 n false (nI (W f)), .int .i64 k], rfl, fun hs => ?_⟩
    obtain ⟨h1, h2⟩ := hs _ List.mem_cons_self
    refine ⟨.cons _ _ _ _ (.rs _ _ _ _ _ _ fun i hi => ⟨h1 i hi, (nI_flat _ i).has⟩) (.cons _ _ _ _ (.same _ _ (.int _ _)) .nil), ?_⟩
    clear hs h1
    unfold maxLen at h2
    generalize W f = w
    refine evC_go0 (dec := []) (ks := [(0, 0), (0, 1), (0, 4)]) (s' := ⟨[(0, 0, Cont.cell (AV.rs 1 n false (nI w))), (0, 1, Cont.cell (AV.int IntKind.i64 k)), (0, 4, Cont.cell (AV.bool false))], 9, 211⟩) (by kernel_rfl) (by kernel_rfl) ?_
    refine evC_cutTo (ι := Unit) (fun _ => ⟨[(0, 0, .cell (.rs 1 (cut n 12) false (nI w))), (0, 1, Cont.cell (AV.int IntKind.i64 k)), (0, 4, Cont.cell (AV.bool false))], 1, 211⟩) ?_ ?_
    · refine evC_go0 (dec := []) (ks := [(0, 0), (0, 1), (0, 4), (0, 17)]) (s' := ⟨[(0, 0, Cont.cell (AV.rs 1 n false (nI w))), (0, 1, Cont.cell (AV.int IntKind.i64 k)), (0, 4, Cont.cell (AV.bool false)), (0, 17, Cont.cell (AV.bool (decide ((↑n : Int) > 12))))], 33, 211⟩) (by kernel_rfl) (by kernel_rfl) ?_
      refine evC_if (q := decide ((↑n : Int) > 12)) (by kernel_rfl) (fun hc => ?_) (fun hc => ?_)
      · have hg : 12 ≤ n := by have := of_decide_eq_true hc; omega
        refine evC_goL (dec := []) (ks := [(0, 0), (0, 1), (0, 4)]) (ps := [(0 : Int) ≤ (0 : Int), (0 : Int) ≤ (12 : Int), (12 : Int) ≤ (↑n : Int), (12 : Int) = (12 : Int), (1 : Nat) = (1 : Nat), false = true → true = true]) (s' := ⟨[(0, 0, Cont.cell (AV.rs 1 12 false fun i => nI w (Int.toNat 0 + i))), (0, 1, Cont.cell (AV.int IntKind.i64 k)), (0, 4, Cont.cell (AV.bool false))], 57, 211⟩) (by kernel_rfl) (by kernel_rfl) ?_ ?_
        · (simp only [All]; (repeat' apply And.intro) <;> (try intro _) <;> (try intro _) <;> (repeat' apply And.intro) <;> (try intro _) <;> (try intro _) <;> first | trivial | assumption | exact .inr trivial | exact .inr rfl | omega | rfl | exact ⟨_, rfl, rfl⟩ | exact ⟨rfl, rfl⟩ | exact ⟨fun _ => rfl, fun _ => rfl⟩ | (unfold maxLen; omega) | (unfold i64R; first | omega | decide) | decide)
        rw [nI_cut]
        refine cut_normal (()) (wk_go [] rfl (by decide) rfl rfl ⟨⟨_, rfl, ?_⟩, ⟨_, rfl, rfl⟩, ⟨_, rfl, rfl⟩, trivial⟩)
        rw [cut_yes hc]; rfl
      · refine evC_skip ?_
        refine cut_normal (()) (wk_go [] rfl (by decide) rfl rfl ⟨⟨_, rfl, ?_⟩, ⟨_, rfl, rfl⟩, ⟨_, rfl, rfl⟩, trivial⟩)
        rw [cut_no hc]; rfl
    intro _
    have hn := cut_le n 12
    generalize cut n 12 = m at *
    refine evC_go (dec := []) (ks := [(0, 0), (0, 1), (0, 4), (0, 5), (33, 0)]) (ps := [((0 : Nat) + m) * (8 : Nat) ≤ (140737488355328 : Nat), (0 : Nat) + m ≤ maxLen, m = (0 : Nat) ∨ (1 : Nat) = (1 : Nat), (1 : Nat) = (1 : Nat), (3 : Nat) = (3 : Nat), ((0 : Nat) + m + (2 : Nat)) * (8 : Nat) ≤ (140737488355328 : Nat), (0 : Nat) + m + (2 : Nat) ≤ maxLen, (2 : Nat) = (0 : Nat) ∨ (1 : Nat) = (1 : Nat), (1 : Nat) = (1 : Nat), (3 : Nat) = (3 : Nat)]) (s' := ⟨[(0, 0, Cont.cell (AV.rs 1 m false (nI w))), (0, 1, Cont.cell (AV.int IntKind.i64 k)), (0, 4, Cont.cell (AV.bool false)), (0, 5, Cont.cell (AV.vs 33)), (33, 0, Cont.vec 1 3 (0 + m + 2) (catF (0 + m) (catF 0 (pget []) (nI w)) (pget [(0, AV.int IntKind.i64 99), (1, AV.int IntKind.i64 99)])))], 49, 211⟩) (by kernel_rfl) (by kernel_rfl) ?_ ?_
    · (simp only [All]; (repeat' apply And.intro) <;> (try intro _) <;> (try intro _) <;> (repeat' apply And.intro) <;> (try intro _) <;> (try intro _) <;> first | trivial | assumption | exact .inr trivial | exact .inr rfl | omega | rfl | exact ⟨_, rfl, rfl⟩ | exact ⟨rfl, rfl⟩ | exact ⟨fun _ => rfl, fun _ => rfl⟩ | (unfold maxLen; omega) | (unfold i64R; first | omega | decide) | decide)
    refine evC_wk (s' := ⟨[(0, 0, Cont.cell (AV.rs 1 m false (nI w))), (0, 1, Cont.cell (AV.int IntKind.i64 k)), (0, 4, Cont.cell (AV.bool false)), (0, 5, Cont.cell (AV.vs 1)), (1, 0, .vec 1 3 (m + 2) (nI (rm m w)))], 2, 211⟩) _ (wk_go [33] rfl (by decide) rfl rfl ⟨⟨_, rfl, rfl⟩, ⟨_, rfl, rfl⟩, ⟨_, rfl, rfl⟩, ⟨_, rfl, rfl⟩, ⟨_, rfl, ?_⟩, trivial⟩) ?_
    · refine ⟨rfl, rfl, by omega, fun j hj => ?_⟩
      show catF (0 + m) (catF 0 (pget []) (nI w)) (pget [(0, AV.int .i64 99), (1, AV.int .i64 99)]) j = AV.int .i64 (rm m w j)
      by_cases h : j < m
      · rw [catF_lt (by omega), catF_ge (Nat.zero_le _), rm_lt h]; rfl
      · rw [catF_ge (by omega), rm_ge h]
        rcases (by omega : j - (0 + m) = 0 ∨ j - (0 + m) = 1) with e | e <;> (rw [e]; rfl)
    refine evC_wk (s' := ⟨[(0, 0, Cont.cell (AV.rs 1 m false (nI w))), (0, 1, Cont.cell (AV.int IntKind.i64 k)), (0, 4, Cont.cell (AV.bool false)), (0, 5, Cont.cell (AV.rs 1 (m + 2) false (nI (rm m w))))], 1, 211⟩) _ (.trans (.frz 1 1 3 (m + 2) (nI (rm m w)) (Nat.le_of_ble_eq_true rfl) rfl) (wk_go [] rfl (by decide) rfl rfl ⟨⟨_, rfl, rfl⟩, ⟨_, rfl, rfl⟩, ⟨_, rfl, rfl⟩, ⟨_, rfl, rfl⟩, trivial⟩)) ?_
    refine evC_go (dec := []) (ks := [(0, 0), (0, 1), (0, 4), (0, 5), (0, 6)]) (ps := [(0 : Int) ≤ (0 : Int), (0 : Int) ≤ (↑m : Int), (↑m : Int) ≤ (↑(m + (2 : Nat)) : Int), (↑m : Int) = (↑m : Int), (1 : Nat) = (1 : Nat), false = true → true = true]) (s' := ⟨[(0, 0, Cont.cell (AV.rs 1 m false (nI w))), (0, 1, Cont.cell (AV.int IntKind.i64 k)), (0, 4, Cont.cell (AV.bool false)), (0, 5, Cont.cell (AV.rs 1 (m + 2) false (nI (rm m w)))), (0, 6, Cont.cell (AV.rs 1 (m - Int.toNat 0) false fun i => nI (rm m w) (Int.toNat 0 + i)))], 41, 211⟩) (by kernel_rfl) (by kernel_rfl) ?_ ?_
    · (simp only [All]; (repeat' apply And.intro) <;> (try intro _) <;> (try intro _) <;> (repeat' apply And.intro) <;> (try intro _) <;> (try intro _) <;> first | trivial | assumption | exact .inr trivial | exact .inr rfl | omega | rfl | exact ⟨_, rfl, rfl⟩ | exact ⟨rfl, rfl⟩ | exact ⟨fun _ => rfl, fun _ => rfl⟩ | (unfold maxLen; omega) | (unfold i64R; first | omega | decide) | decide)
    refine evC_wk (s' := ⟨[(0, 0, Cont.cell (AV.rs 1 m false (nI w))), (0, 1, Cont.cell (AV.int IntKind.i64 k)), (0, 4, Cont.cell (AV.bool false)), (0, 5, Cont.cell (AV.rs 1 (m + 2) false (nI (rm m w)))), (0, 6, .cell (.rs 1 m false (nI (rm m w))))], 1, 211⟩) _ (wk_go [] rfl (by decide) rfl rfl ⟨⟨_, rfl, rfl⟩, ⟨_, rfl, rfl⟩, ⟨_, rfl, rfl⟩, ⟨_, rfl, rfl⟩, ⟨_, rfl, ?_⟩, trivial⟩) ?_
    · show AV.rs 1 (m - Int.toNat 0) false (fun i => nI (rm m w) (Int.toNat 0 + i)) = AV.rs 1 m false (nI (rm m w))
      rw [nI_cut]; rfl
    refine evC_go (dec := []) (ks := [(0, 0), (0, 1), (0, 4), (0, 5), (0, 6), (0, 7), (0, 8), (17, 0)]) (ps := [(∀ (i : Nat), i < m → nI (rm m w) i = nI (W (nI (rm m w))) i) ∧ m ≤ maxLen]) (s' := ⟨[(0, 0, Cont.cell (AV.rs 1 m false (nI w))), (0, 1, Cont.cell (AV.int IntKind.i64 k)), (0, 4, Cont.cell (AV.bool false)), (0, 5, Cont.cell (AV.rs 1 (m + 2) false (nI (rm m w)))), (0, 6, Cont.cell (AV.rs 1 m false (nI (rm m w)))), (0, 7, Cont.cell (AV.vs 17)), (0, 8, Cont.cell (AV.int IntKind.i64 (qE m (W (nI (rm m w))) k))), (17, 0, Cont.vec 1 3 (bif qE m (W (nI (rm m w))) k == 0 then m + 1 else 0) (nI (qW m (W (nI (rm m w))) k)))], 65, 211⟩) (by kernel_rfl) (by kernel_rfl) ?_ ?_
    · (simp only [All]; (repeat' apply And.intro) <;> (try intro _) <;> (try intro _) <;> (repeat' apply And.intro) <;> (try intro _) <;> (try intro _) <;> first | trivial | assumption | exact .inr trivial | exact .inr rfl | omega | rfl | exact ⟨_, rfl, rfl⟩ | exact ⟨rfl, rfl⟩ | exact ⟨fun _ => rfl, fun _ => rfl⟩ | (unfold maxLen; omega) | (unfold i64R; first | omega | decide) | decide)
    rw [W_nI (rm m w), qE_rm, qW_rm]
    refine evC_go (dec := []) (ks := [(0, 0), (0, 1), (0, 4), (0, 5), (0, 7), (0, 8), (0, 9), (0, 10), (0, 11), (17, 0), (73, 0)]) (ps := [(∀ (i : Nat), i < m → nI (rm m w) i = nI (W (nI (rm m w))) i) ∧ m ≤ maxLen]) (s' := ⟨[(0, 0, Cont.cell (AV.rs 1 m false (nI w))), (0, 1, Cont.cell (AV.int IntKind.i64 k)), (0, 4, Cont.cell (AV.bool false)), (0, 5, Cont.cell (AV.rs 1 (m + 2) false (nI (rm m w)))), (0, 7, Cont.cell (AV.vs 17)), (0, 8, Cont.cell (AV.int IntKind.i64 (qE m w k))), (0, 9, Cont.cell (AV.int IntKind.i64 (bif sE m (W (nI (rm m w))) == 0 then W (nI (rm m w)) 0 else 0))), (0, 10, Cont.cell (AV.vs 73)), (0, 11, Cont.cell (AV.int IntKind.i64 (sE m (W (nI (rm m w)))))), (17, 0, Cont.vec 1 3 (bif qE m w k == 0 then m + 1 else 0) (nI (qW m w k))), (73, 0, Cont.vec 1 3 (bif sE m (W (nI (rm m w))) == 0 then m - 1 else 0) (nI fun i => W (nI (rm m w)) (1 + i)))], 137, 211⟩) (by kernel_rfl) (by kernel_rfl) ?_ ?_
    · (simp only [All]; (repeat' apply And.intro) <;> (try intro _) <;> (try intro _) <;> (repeat' apply And.intro) <;> (try intro _) <;> (try intro _) <;> first | trivial | assumption | exact .inr trivial | exact .inr rfl | omega | rfl | exact ⟨_, rfl, rfl⟩ | exact ⟨rfl, rfl⟩ | exact ⟨fun _ => rfl, fun _ => rfl⟩ | (unfold maxLen; omega) | (unfold i64R; first | omega | decide) | decide)
    rw [W_nI (rm m w), sE_rm]
    refine evC_seq ?_
    refine evC_go0 (dec := []) (ks := [(0, 0), (0, 1), (0, 4), (0, 5), (0, 7), (0, 8), (0, 9), (0, 10), (0, 11), (0, 12), (17, 0), (73, 0)]) (s' := ⟨[(0, 0, Cont.cell (AV.rs 1 m false (nI w))), (0, 1, Cont.cell (AV.int IntKind.i64 k)), (0, 4, Cont.cell (AV.bool false)), (0, 5, Cont.cell (AV.rs 1 (m + 2) false (nI (rm m w)))), (0, 7, Cont.cell (AV.vs 17)), (0, 8, Cont.cell (AV.int IntKind.i64 (qE m w k))), (0, 9, Cont.cell (AV.int IntKind.i64 (bif sE m w == 0 then rm m w 0 else 0))), (0, 10, Cont.cell (AV.vs 73)), (0, 11, Cont.cell (AV.int IntKind.i64 (sE m w))), (0, 12, Cont.cell (AV.int IntKind.i64 0)), (17, 0, Cont.vec 1 3 (bif qE m w k == 0 then m + 1 else 0) (nI (qW m w k))), (73, 0, Cont.vec 1 3 (bif sE m w == 0 then m - 1 else 0) (nI fun i => rm m w (1 + i)))], 145, 211⟩) (by kernel_rfl) (by kernel_rfl) ?_
    refine evC_block ?_
    refine evC_loop (ι := { i : Nat // i ≤ m + 2 }) (fun y => ⟨[(0, 0, Cont.cell (AV.rs 1 m false (nI w))), (0, 1, Cont.cell (AV.int IntKind.i64 k)), (0, 4, Cont.cell (AV.bool false)), (0, 5, Cont.cell (AV.rs 1 (m + 2) false (nI (rm m w)))), (0, 7, Cont.cell (AV.vs 1)), (0, 8, Cont.cell (AV.int IntKind.i64 (qE m w k))), (0, 9, Cont.cell (AV.int IntKind.i64 (bif sE m w == 0 then rm m w 0 else 0))), (0, 10, Cont.cell (AV.vs 2)), (0, 11, Cont.cell (AV.int IntKind.i64 (sE m w))), (0, 12, .cell (.int .i64 (y.1 : Nat))), (1, 0, Cont.vec 1 3 (bif qE m w k == 0 then m + 1 else 0) (nI (qW m w k))), (2, 0, Cont.vec 1 3 (bif sE m w == 0 then m - 1 else 0) (nI fun i => rm m w (1 + i)))], 3, 211⟩) (fun y => m + 2 - y.1) ⟨0, Nat.zero_le _⟩ (wk_go [17, 73] rfl (by decide) rfl rfl ⟨⟨_, rfl, rfl⟩, ⟨_, rfl, rfl⟩, ⟨_, rfl, rfl⟩, ⟨_, rfl, rfl⟩, ⟨_, rfl, rfl⟩, ⟨_, rfl, rfl⟩, ⟨_, rfl, rfl⟩, ⟨_, rfl, rfl⟩, ⟨_, rfl, rfl⟩, ⟨_, rfl, rfl⟩, ⟨_, rfl, rfl, rfl, rfl, fun _ _ => rfl⟩, ⟨_, rfl, rfl, rfl, rfl, fun _ _ => rfl⟩, trivial⟩) ?_
    rintro ⟨i, hi⟩
    dsimp only at hi ⊢
    refine evC_seq ?_
    refine evC_go0 (dec := []) (ks := [(0, 0), (0, 1), (0, 4), (0, 5), (0, 7), (0, 8), (0, 9), (0, 10), (0, 11), (0, 12), (0, 44), (1, 0), (2, 0)]) (s' := ⟨[(0, 0, Cont.cell (AV.rs 1 m false (nI w))), (0, 1, Cont.cell (AV.int IntKind.i64 k)), (0, 4, Cont.cell (AV.bool false)), (0, 5, Cont.cell (AV.rs 1 (m + 2) false (nI (rm m w)))), (0, 7, Cont.cell (AV.vs 1)), (0, 8, Cont.cell (AV.int IntKind.i64 (qE m w k))), (0, 9, Cont.cell (AV.int IntKind.i64 (bif sE m w == 0 then rm m w 0 else 0))), (0, 10, Cont.cell (AV.vs 2)), (0, 11, Cont.cell (AV.int IntKind.i64 (sE m w))), (0, 12, Cont.cell (AV.int IntKind.i64 (↑i : Int))), (0, 44, Cont.cell (AV.bool (decide ((↑i : Int) < (↑(m + 2) : Int))))), (1, 0, Cont.vec 1 3 (bif qE m w k == 0 then m + 1 else 0) (nI (qW m w k))), (2, 0, Cont.vec 1 3 (bif sE m w == 0 then m - 1 else 0) (nI fun i => rm m w (1 + i)))], 35, 211⟩) (by kernel_rfl) (by kernel_rfl) ?_
    refine evC_if (q := decide ((↑i : Int) < (↑(m + 2) : Int))) (by kernel_rfl) (fun hc => ?_) (fun hc => ?_)
    · have hlt : i < m + 2 := by have := of_decide_eq_true hc; omega
      clear hc
      have hd : (bif bif decide ((i : Int) < (m : Int)) then rm m w i != w i else false then true else bif decide ((i : Int) ≥ (m : Int)) then rm m w i != 99 else false) = false := by
        by_cases h : i < m
        · have e1 : decide ((i : Int) ≥ (m : Int)) = false := by simp; omega
          rw [rm_lt h, e1]; simp
        · have e1 : decide ((i : Int) < (m : Int)) = false := by simp; omega
          rw [rm_ge h, e1]; simp
      have hg : [decide ((i : Int) < (m : Int))].all id = true → (i : Int) < (m : Int) := by
        intro h; simpa using h
      refine evC_skip ?_
      refine then_normal ?_
      refine evC_seq ?_
      refine evC_block ?_
      refine evC_go (dec := []) (ks := [(0, 0), (0, 1), (0, 4), (0, 5), (0, 7), (0, 8), (0, 9), (0, 10), (0, 11), (0, 12), (0, 74), (1, 0), (2, 0)]) (ps := [List.all [decide ((↑i : Int) < (↑m : Int))] id = true → (0 : Int) ≤ (↑i : Int), List.all [decide ((↑i : Int) < (↑m : Int))] id = true → (↑i : Int) < (↑(m + (2 : Nat)) : Int), List.all [decide ((↑i : Int) < (↑m : Int))] id = true → (1 : Nat) = (1 : Nat), List.all [decide ((↑i : Int) < (↑m : Int))] id = true → (0 : Int) ≤ (↑i : Int), List.all [decide ((↑i : Int) < (↑m : Int))] id = true → (↑i : Int) < (↑m : Int), List.all [decide ((↑i : Int) < (↑m : Int))] id = true → (1 : Nat) = (1 : Nat), List.all [decide ((↑i : Int) ≥ (↑m : Int)), !bif decide ((↑i : Int) < (↑m : Int)) then rm m w i != w i else false] id = true → (0 : Int) ≤ (↑i : Int), List.all [decide ((↑i : Int) ≥ (↑m : Int)), !bif decide ((↑i : Int) < (↑m : Int)) then rm m w i != w i else false] id = true → (↑i : Int) < (↑(m + (2 : Nat)) : Int), List.all [decide ((↑i : Int) ≥ (↑m : Int)), !bif decide ((↑i : Int) < (↑m : Int)) then rm m w i != w i else false] id = true → (1 : Nat) = (1 : Nat)]) (s' := ⟨[(0, 0, Cont.cell (AV.rs 1 m false (nI w))), (0, 1, Cont.cell (AV.int IntKind.i64 k)), (0, 4, Cont.cell (AV.bool false)), (0, 5, Cont.cell (AV.rs 1 (m + 2) false (nI (rm m w)))), (0, 7, Cont.cell (AV.vs 1)), (0, 8, Cont.cell (AV.int IntKind.i64 (qE m w k))), (0, 9, Cont.cell (AV.int IntKind.i64 (bif sE m w == 0 then rm m w 0 else 0))), (0, 10, Cont.cell (AV.vs 2)), (0, 11, Cont.cell (AV.int IntKind.i64 (sE m w))), (0, 12, Cont.cell (AV.int IntKind.i64 (↑i : Int))), (0, 74, Cont.cell (AV.bool (bif bif decide ((↑i : Int) < (↑m : Int)) then rm m w i != w i else false then true else bif decide ((↑i : Int) ≥ (↑m : Int)) then rm m w i != 99 else false))), (1, 0, Cont.vec 1 3 (bif qE m w k == 0 then m + 1 else 0) (nI (qW m w k))), (2, 0, Cont.vec 1 3 (bif sE m w == 0 then m - 1 else 0) (nI fun i => rm m w (1 + i)))], 259, 211⟩) (by kernel_rfl) (by kernel_rfl) ?_ ?_
      · simp only [All]
        repeat' apply And.intro
        all_goals first | trivial | omega | (intro h; trivial) | exact hg | (intro h; omega)
      rw [hd]
      refine evC_if (q := false) (by kernel_rfl) (fun hc => ?_) (fun hc => ?_)
      · cases hc
      clear hc
      refine evC_skip ?_
      refine block_normal ?_
      refine then_normal ?_
      refine evC_goL0 (dec := []) (ks := [(0, 0), (0, 1), (0, 4), (0, 5), (0, 7), (0, 8), (0, 9), (0, 10), (0, 11), (0, 12), (1, 0), (2, 0)]) (s' := ⟨[(0, 0, Cont.cell (AV.rs 1 m false (nI w))), (0, 1, Cont.cell (AV.int IntKind.i64 k)), (0, 4, Cont.cell (AV.bool false)), (0, 5, Cont.cell (AV.rs 1 (m + 2) false (nI (rm m w)))), (0, 7, Cont.cell (AV.vs 1)), (0, 8, Cont.cell (AV.int IntKind.i64 (qE m w k))), (0, 9, Cont.cell (AV.int IntKind.i64 (bif sE m w == 0 then rm m w 0 else 0))), (0, 10, Cont.cell (AV.vs 2)), (0, 11, Cont.cell (AV.int IntKind.i64 (sE m w))), (0, 12, Cont.cell (AV.int IntKind.i64 (IntKind.i64.wrap ((↑i : Int) + 1)))), (1, 0, Cont.vec 1 3 (bif qE m w k == 0 then m + 1 else 0) (nI (qW m w k))), (2, 0, Cont.vec 1 3 (bif sE m w == 0 then m - 1 else 0) (nI fun i => rm m w (1 + i)))], 283, 211⟩) (by kernel_rfl) (by kernel_rfl) ?_
      rw [wrap_add_one hlt (by omega)]
      refine round_normal (⟨i + 1, by omega⟩) (wk_go [1, 2] rfl (by decide) rfl rfl ⟨⟨_, rfl, rfl⟩, ⟨_, rfl, rfl⟩, ⟨_, rfl, rfl⟩, ⟨_, rfl, rfl⟩, ⟨_, rfl, rfl⟩, ⟨_, rfl, rfl⟩, ⟨_, rfl, rfl⟩, ⟨_, rfl, rfl⟩, ⟨_, rfl, rfl⟩, ⟨_, rfl, rfl⟩, ⟨_, rfl, ⟨rfl, rfl, rfl, fun _ _ => rfl⟩⟩, ⟨_, rfl, ⟨rfl, rfl, rfl, fun _ _ => rfl⟩⟩, trivial⟩) ?_
      show m + 2 - (i + 1) < m + 2 - i; omega
    clear hc
    refine evC_exit ?_
    refine then_exit ?_
    refine round_exit ?_
    refine block_exit ?_
    refine then_normal ?_
    refine evC_seq ?_
    refine evC_go (dec := []) (ks := [(0, 0), (0, 1), (0, 4), (0, 7), (0, 8), (0, 9), (0, 10), (0, 11), (0, 77), (1, 0), (2, 0)]) (ps := [(∀ (i : Nat), i < m → nI w i = nI (W (nI w)) i) ∧ m ≤ maxLen]) (s' := ⟨[(0, 0, Cont.cell (AV.rs 1 m false (nI w))), (0, 1, Cont.cell (AV.int IntKind.i64 k)), (0, 4, Cont.cell (AV.bool false)), (0, 7, Cont.cell (AV.vs 1)), (0, 8, Cont.cell (AV.int IntKind.i64 (qE m w k))), (0, 9, Cont.cell (AV.int IntKind.i64 (bif sE m w == 0 then rm m w 0 else 0))), (0, 10, Cont.cell (AV.vs 2)), (0, 11, Cont.cell (AV.int IntKind.i64 (sE m w))), (0, 77, Cont.cell (AV.bool !lineF m (W (nI w)))), (1, 0, Cont.vec 1 3 (bif qE m w k == 0 then m + 1 else 0) (nI (qW m w k))), (2, 0, Cont.vec 1 3 (bif sE m w == 0 then m - 1 else 0) (nI fun i => rm m w (1 + i)))], 59, 211⟩) (by kernel_rfl) (by kernel_rfl) ?_ ?_
    · (simp only [All]; (repeat' apply And.intro) <;> (try intro _) <;> (try intro _) <;> (repeat' apply And.intro) <;> (try intro _) <;> (try intro _) <;> first | trivial | assumption | exact .inr trivial | exact .inr rfl | omega | rfl | exact ⟨_, rfl, rfl⟩ | exact ⟨rfl, rfl⟩ | exact ⟨fun _ => rfl, fun _ => rfl⟩ | (unfold maxLen; omega) | (unfold i64R; first | omega | decide) | decide)
    rw [W_nI w]
    refine evC_if (q := !lineF m w) (by kernel_rfl) (fun hc => ?_) (fun hc => ?_)
    · have hl : lineF m w = false := (Bool.not_eq_true' _).mp hc
      have e1 : qE m w k = 1 := by unfold qE; rw [hl]; rfl
      have e2 : sE m w = 1 := by unfold sE; rw [hl]; rfl
      rw [e1, e2]
      refine evC_go0 (dec := []) (ks := [(0, 0), (0, 1), (0, 4), (0, 7), (0, 8), (0, 9), (0, 10), (0, 11), (1, 0), (2, 0)]) (s' := ⟨[(0, 0, Cont.cell (AV.rs 1 m false (nI w))), (0, 1, Cont.cell (AV.int IntKind.i64 k)), (0, 4, Cont.cell (AV.bool (bif bif bif bif bif (↑(bif 1 == 0 then m + 1 else 0) : Int) == 0 then (↑(bif 1 == 0 then m - 1 else 0) : Int) == 0 else false then (bif 1 == 0 then rm m w 0 else 0) == 0 else false then 1 == 1 else false then 1 == 1 else false then true else false))), (0, 7, Cont.cell (AV.vs 1)), (0, 8, Cont.cell (AV.int IntKind.i64 1)), (0, 9, Cont.cell (AV.int IntKind.i64 (bif 1 == 0 then rm m w 0 else 0))), (0, 10, Cont.cell (AV.vs 2)), (0, 11, Cont.cell (AV.int IntKind.i64 1)), (1, 0, Cont.vec 1 3 0 (nI (qW m w k))), (2, 0, Cont.vec 1 3 0 (nI fun i => rm m w (1 + i)))], 251, 211⟩) (by kernel_rfl) (by kernel_rfl) ?_
      refine evC_ret ?_
      refine then_ret ?_
      refine post_ret ?_
      refine ends_flat (vs := [AV.bool (bif bif bif bif bif (↑(bif 1 == 0 then m + 1 else 0) : Int) == 0 then (↑(bif 1 == 0 then m - 1 else 0) : Int) == 0 else false then (bif 1 == 0 then rm m w 0 else 0) == 0 else false then 1 == 1 else false then 1 == 1 else false then true else false)]) (Nat.zero_lt_succ _) (by kernel_rfl) (flat_of _ (by kernel_rfl)) rfl ?_
      rfl
    · have hl : lineF m w = true := (Bool.not_eq_false' _).mp hc
      have h8 : m ≤ 8 := by
        have h := hl
        unfold lineF at h
        simp only [Bool.and_eq_true] at h
        exact Nat.le_of_ble_eq_true h.1
      clear hc
      refine evC_skip ?_
      refine then_normal ?_
      refine evC_cutTo (ι := Unit) (fun _ => ⟨[(0, 0, Cont.cell (AV.rs 1 m false (nI w))), (0, 1, Cont.cell (AV.int IntKind.i64 k)), (0, 4, Cont.cell (AV.bool false)), (0, 7, Cont.cell (AV.vs 1)), (0, 8, Cont.cell (AV.int IntKind.i64 (qE m w k))), (0, 9, Cont.cell (AV.int IntKind.i64 (bif sE m w == 0 then rm m w 0 else 0))), (0, 10, Cont.cell (AV.vs 2)), (0, 11, Cont.cell (AV.int IntKind.i64 (sE m w))), (0, 77, Cont.cell (AV.bool !lineF m w)), (1, 0, Cont.vec 1 3 (bif qE m w k == 0 then m + 1 else 0) (nI (qW m w k))), (2, 0, Cont.vec 1 3 (bif sE m w == 0 then m - 1 else 0) (nI fun i => rm m w (1 + i)))], 3, 211⟩) ?_ ?_
      · have hk : (bif decide (k < 0) then true else decide (k > 15)) = !inR 0 15 k := by
          rw [cond_or]; unfold inR
          rw [Bool.eq_iff_iff]
          simp only [Bool.or_eq_true, decide_eq_true_eq, Bool.not_eq_true', Bool.and_eq_false_iff, decide_eq_false_iff_not]
          omega
        refine evC_block ?_
        refine evC_go0 (dec := []) (ks := [(0, 0), (0, 1), (0, 4), (0, 7), (0, 8), (0, 9), (0, 10), (0, 11), (0, 77), (0, 135), (1, 0), (2, 0)]) (s' := ⟨[(0, 0, Cont.cell (AV.rs 1 m false (nI w))), (0, 1, Cont.cell (AV.int IntKind.i64 k)), (0, 4, Cont.cell (AV.bool false)), (0, 7, Cont.cell (AV.vs 1)), (0, 8, Cont.cell (AV.int IntKind.i64 (qE m w k))), (0, 9, Cont.cell (AV.int IntKind.i64 (bif sE m w == 0 then rm m w 0 else 0))), (0, 10, Cont.cell (AV.vs 2)), (0, 11, Cont.cell (AV.int IntKind.i64 (sE m w))), (0, 77, Cont.cell (AV.bool !lineF m w)), (0, 135, Cont.cell (AV.bool (bif decide (k < 0) then true else decide (k > 15)))), (1, 0, Cont.vec 1 3 (bif qE m w k == 0 then m + 1 else 0) (nI (qW m w k))), (2, 0, Cont.vec 1 3 (bif sE m w == 0 then m - 1 else 0) (nI fun i => rm m w (1 + i)))], 115, 211⟩) (by kernel_rfl) (by kernel_rfl) ?_
        rw [hk]
        refine evC_if (q := !inR 0 15 k) (by kernel_rfl) (fun hc => ?_) (fun hc => ?_)
        · have hk2 : inR 0 15 k = false := (Bool.not_eq_true' _).mp hc
          have e1 : qE m w k = 1 := by unfold qE; rw [hl, hk2]; rfl
          rw [e1]
          refine evC_go0 (dec := []) (ks := [(0, 0), (0, 1), (0, 4), (0, 7), (0, 8), (0, 9), (0, 10), (0, 11), (0, 77), (0, 148), (1, 0), (2, 0)]) (s' := ⟨[(0, 0, Cont.cell (AV.rs 1 m false (nI w))), (0, 1, Cont.cell (AV.int IntKind.i64 k)), (0, 4, Cont.cell (AV.bool false)), (0, 7, Cont.cell (AV.vs 1)), (0, 8, Cont.cell (AV.int IntKind.i64 1)), (0, 9, Cont.cell (AV.int IntKind.i64 (bif sE m w == 0 then rm m w 0 else 0))), (0, 10, Cont.cell (AV.vs 2)), (0, 11, Cont.cell (AV.int IntKind.i64 (sE m w))), (0, 77, Cont.cell (AV.bool !lineF m w)), (0, 148, Cont.cell (AV.bool (bif (↑(bif 1 == 0 then m + 1 else 0) : Int) != 0 then true else 1 != 1))), (1, 0, Cont.vec 1 3 0 (nI (qW m w k))), (2, 0, Cont.vec 1 3 (bif sE m w == 0 then m - 1 else 0) (nI fun i => rm m w (1 + i)))], 171, 211⟩) (by kernel_rfl) (by kernel_rfl) ?_
          refine evC_if (q := bif (↑(bif 1 == 0 then m + 1 else 0) : Int) != 0 then true else 1 != 1) (by kernel_rfl) (fun hc => ?_) (fun hc => ?_)
          · simp at hc
          refine evC_skip ?_
          refine block_normal ?_
          refine cut_normal (()) (wk_go [1, 2] rfl (by decide) rfl rfl ⟨⟨_, rfl, rfl⟩, ⟨_, rfl, rfl⟩, ⟨_, rfl, rfl⟩, ⟨_, rfl, rfl⟩, ⟨_, rfl, rfl⟩, ⟨_, rfl, rfl⟩, ⟨_, rfl, rfl⟩, ⟨_, rfl, rfl⟩, ⟨_, rfl, rfl⟩, ⟨_, rfl, ⟨rfl, rfl, rfl, fun _ _ => rfl⟩⟩, ⟨_, rfl, ⟨rfl, rfl, rfl, fun _ _ => rfl⟩⟩, trivial⟩)
        · have hk2 : inR 0 15 k = true := (Bool.not_eq_false' _).mp hc
          clear hc
          refine evC_go0 (dec := []) (ks := [(0, 0), (0, 1), (0, 4), (0, 7), (0, 8), (0, 9), (0, 10), (0, 11), (0, 77), (0, 149), (1, 0), (2, 0)]) (s' := ⟨[(0, 0, Cont.cell (AV.rs 1 m false (nI w))), (0, 1, Cont.cell (AV.int IntKind.i64 k)), (0, 4, Cont.cell (AV.bool false)), (0, 7, Cont.cell (AV.vs 1)), (0, 8, Cont.cell (AV.int IntKind.i64 (qE m w k))), (0, 9, Cont.cell (AV.int IntKind.i64 (bif sE m w == 0 then rm m w 0 else 0))), (0, 10, Cont.cell (AV.vs 2)), (0, 11, Cont.cell (AV.int IntKind.i64 (sE m w))), (0, 77, Cont.cell (AV.bool !lineF m w)), (0, 149, Cont.cell (AV.bool ((↑m : Int) == 8))), (1, 0, Cont.vec 1 3 (bif qE m w k == 0 then m + 1 else 0) (nI (qW m w k))), (2, 0, Cont.vec 1 3 (bif sE m w == 0 then m - 1 else 0) (nI fun i => rm m w (1 + i)))], 147, 211⟩) (by kernel_rfl) (by kernel_rfl) ?_
          refine evC_if (q := (↑m : Int) == 8) (by kernel_rfl) (fun hc => ?_) (fun hc => ?_)
          · have hm : m = 8 := by
              have : (m : Int) = 8 := by simpa using hc
              omega
            have e1 : qE m w k = 5 := by unfold qE; rw [hl, hk2, hm]; rfl
            rw [e1]
            refine evC_go0 (dec := []) (ks := [(0, 0), (0, 1), (0, 4), (0, 7), (0, 8), (0, 9), (0, 10), (0, 11), (0, 77), (0, 159), (1, 0), (2, 0)]) (s' := ⟨[(0, 0, Cont.cell (AV.rs 1 m false (nI w))), (0, 1, Cont.cell (AV.int IntKind.i64 k)), (0, 4, Cont.cell (AV.bool false)), (0, 7, Cont.cell (AV.vs 1)), (0, 8, Cont.cell (AV.int IntKind.i64 5)), (0, 9, Cont.cell (AV.int IntKind.i64 (bif sE m w == 0 then rm m w 0 else 0))), (0, 10, Cont.cell (AV.vs 2)), (0, 11, Cont.cell (AV.int IntKind.i64 (sE m w))), (0, 77, Cont.cell (AV.bool !lineF m w)), (0, 159, Cont.cell (AV.bool (bif (↑(bif 5 == 0 then m + 1 else 0) : Int) != 0 then true else 5 != 5))), (1, 0, Cont.vec 1 3 0 (nI (qW m w k))), (2, 0, Cont.vec 1 3 (bif sE m w == 0 then m - 1 else 0) (nI fun i => rm m w (1 + i)))], 203, 211⟩) (by kernel_rfl) (by kernel_rfl) ?_
            refine evC_if (q := bif (↑(bif 5 == 0 then m + 1 else 0) : Int) != 0 then true else 5 != 5) (by kernel_rfl) (fun hc => ?_) (fun hc => ?_)
            · simp at hc
            refine evC_skip ?_
            refine block_normal ?_
            refine cut_normal (()) (wk_go [1, 2] rfl (by decide) rfl rfl ⟨⟨_, rfl, rfl⟩, ⟨_, rfl, rfl⟩, ⟨_, rfl, rfl⟩, ⟨_, rfl, rfl⟩, ⟨_, rfl, rfl⟩, ⟨_, rfl, rfl⟩, ⟨_, rfl, rfl⟩, ⟨_, rfl, rfl⟩, ⟨_, rfl, rfl⟩, ⟨_, rfl, ⟨rfl, rfl, rfl, fun _ _ => rfl⟩⟩, ⟨_, rfl, ⟨rfl, rfl, rfl, fun _ _ => rfl⟩⟩, trivial⟩)
          · have hm : (m == 8) = false := by
              have : ¬ (m : Int) = 8 := by simpa using hc
              have : ¬ m = 8 := by omega
              simpa using this
            have e1 : qE m w k = 0 := by unfold qE; rw [hl, hk2, hm]; rfl
            rw [e1]
            clear hc
            refine evC_seq ?_
            refine evC_go (dec := []) (ks := [(0, 0), (0, 1), (0, 4), (0, 7), (0, 8), (0, 9), (0, 10), (0, 11), (0, 77), (0, 119), (1, 0), (2, 0)]) (ps := [List.all [!(↑(bif (0 : Int) == (0 : Int) then m + (1 : Nat) else (0 : Nat)) : Int) != IntKind.i64.wrap ((↑m : Int) + (1 : Int))] id = true → (0 : Int) ≤ (↑m : Int), List.all [!(↑(bif (0 : Int) == (0 : Int) then m + (1 : Nat) else (0 : Nat)) : Int) != IntKind.i64.wrap ((↑m : Int) + (1 : Int))] id = true → (↑m : Int) < (↑(bif (0 : Int) == (0 : Int) then m + (1 : Nat) else (0 : Nat)) : Int), List.all [!(↑(bif (0 : Int) == (0 : Int) then m + (1 : Nat) else (0 : Nat)) : Int) != IntKind.i64.wrap ((↑m : Int) + (1 : Int))] id = true → (1 : Nat) = (1 : Nat), List.all [!(↑(bif (0 : Int) == (0 : Int) then m + (1 : Nat) else (0 : Nat)) : Int) != IntKind.i64.wrap ((↑m : Int) + (1 : Int))] id = true → (0 : Int) ≤ (↑m : Int), List.all [!(↑(bif (0 : Int) == (0 : Int) then m + (1 : Nat) else (0 : Nat)) : Int) != IntKind.i64.wrap ((↑m : Int) + (1 : Int))] id = true → (↑m : Int) < (↑(bif (0 : Int) == (0 : Int) then m + (1 : Nat) else (0 : Nat)) : Int), List.all [!(↑(bif (0 : Int) == (0 : Int) then m + (1 : Nat) else (0 : Nat)) : Int) != IntKind.i64.wrap ((↑m : Int) + (1 : Int))] id = true → (1 : Nat) = (1 : Nat)]) (s' := ⟨[(0, 0, Cont.cell (AV.rs 1 m false (nI w))), (0, 1, Cont.cell (AV.int IntKind.i64 k)), (0, 4, Cont.cell (AV.bool false)), (0, 7, Cont.cell (AV.vs 1)), (0, 8, Cont.cell (AV.int IntKind.i64 0)), (0, 9, Cont.cell (AV.int IntKind.i64 (bif sE m w == 0 then rm m w 0 else 0))), (0, 10, Cont.cell (AV.vs 2)), (0, 11, Cont.cell (AV.int IntKind.i64 (sE m w))), (0, 77, Cont.cell (AV.bool !lineF m w)), (0, 119, Cont.cell (AV.bool (bif bif (↑(bif 0 == 0 then m + 1 else 0) : Int) != IntKind.i64.wrap ((↑m : Int) + 1) then true else qW m w k m != k then true else 0 != 0))), (1, 0, Cont.vec 1 3 (bif 0 == 0 then m + 1 else 0) (nI (qW m w k))), (2, 0, Cont.vec 1 3 (bif sE m w == 0 then m - 1 else 0) (nI fun i => rm m w (1 + i)))], 299, 211⟩) (by kernel_rfl) (by kernel_rfl) ?_ ?_
            · simp only [All, Int.toNat_natCast]
              repeat' apply And.intro
              all_goals first | trivial | (intro _; trivial) | (intro _; simp; omega) | (intro _; omega)
            have hq : qW m w k m = k := by unfold qW; rw [blt_no (Nat.lt_irrefl m)]; rfl
            rw [hq, i64_in ((m : Int) + 1) (by omega)]
            have e0 : (bif (0 : Int) == 0 then m + 1 else 0) = m + 1 := rfl
            rw [e0]
            refine evC_if (q := bif bif (↑(bif 0 == 0 then m + 1 else 0) : Int) != (↑m : Int) + 1 then true else k != k then true else 0 != 0) (by kernel_rfl) (fun hc => ?_) (fun hc => ?_)
            · exfalso; revert hc; simp
            clear hc
            refine evC_skip ?_
            refine then_normal ?_
            refine evC_go0 (dec := []) (ks := [(0, 0), (0, 1), (0, 4), (0, 7), (0, 8), (0, 9), (0, 10), (0, 11), (0, 13), (0, 77), (1, 0), (2, 0)]) (s' := ⟨[(0, 0, Cont.cell (AV.rs 1 m false (nI w))), (0, 1, Cont.cell (AV.int IntKind.i64 k)), (0, 4, Cont.cell (AV.bool false)), (0, 7, Cont.cell (AV.vs 1)), (0, 8, Cont.cell (AV.int IntKind.i64 0)), (0, 9, Cont.cell (AV.int IntKind.i64 (bif sE m w == 0 then rm m w 0 else 0))), (0, 10, Cont.cell (AV.vs 2)), (0, 11, Cont.cell (AV.int IntKind.i64 (sE m w))), (0, 13, Cont.cell (AV.int IntKind.i64 0)), (0, 77, Cont.cell (AV.bool !lineF m w)), (1, 0, Cont.vec 1 3 (bif 0 == 0 then m + 1 else 0) (nI (qW m w k))), (2, 0, Cont.vec 1 3 (bif sE m w == 0 then m - 1 else 0) (nI fun i => rm m w (1 + i)))], 307, 211⟩) (by kernel_rfl) (by kernel_rfl) ?_
            refine evC_block ?_
            refine evC_loop (ι := { i : Nat // i ≤ m }) (fun y => ⟨[(0, 0, Cont.cell (AV.rs 1 m false (nI w))), (0, 1, Cont.cell (AV.int IntKind.i64 k)), (0, 4, Cont.cell (AV.bool false)), (0, 7, Cont.cell (AV.vs 1)), (0, 8, Cont.cell (AV.int IntKind.i64 0)), (0, 9, Cont.cell (AV.int IntKind.i64 (bif sE m w == 0 then rm m w 0 else 0))), (0, 10, Cont.cell (AV.vs 2)), (0, 11, Cont.cell (AV.int IntKind.i64 (sE m w))), (0, 13, .cell (.int .i64 (y.1 : Nat))), (0, 77, Cont.cell (AV.bool !lineF m w)), (1, 0, Cont.vec 1 3 (bif 0 == 0 then m + 1 else 0) (nI (qW m w k))), (2, 0, Cont.vec 1 3 (bif sE m w == 0 then m - 1 else 0) (nI fun i => rm m w (1 + i)))], 3, 211⟩) (fun y => m - y.1) ⟨0, Nat.zero_le _⟩ (wk_go [1, 2] rfl (by decide) rfl rfl ⟨⟨_, rfl, rfl⟩, ⟨_, rfl, rfl⟩, ⟨_, rfl, rfl⟩, ⟨_, rfl, rfl⟩, ⟨_, rfl, rfl⟩, ⟨_, rfl, rfl⟩, ⟨_, rfl, rfl⟩, ⟨_, rfl, rfl⟩, ⟨_, rfl, rfl⟩, ⟨_, rfl, rfl⟩, ⟨_, rfl, rfl, rfl, rfl, fun _ _ => rfl⟩, ⟨_, rfl, rfl, rfl, rfl, fun _ _ => rfl⟩, trivial⟩) ?_
            rintro ⟨i, hi⟩
            dsimp only at hi ⊢
            refine evC_seq ?_
            refine evC_go0 (dec := []) (ks := [(0, 0), (0, 1), (0, 4), (0, 7), (0, 8), (0, 9), (0, 10), (0, 11), (0, 13), (0, 77), (0, 123), (1, 0), (2, 0)]) (s' := ⟨[(0, 0, Cont.cell (AV.rs 1 m false (nI w))), (0, 1, Cont.cell (AV.int IntKind.i64 k)), (0, 4, Cont.cell (AV.bool false)), (0, 7, Cont.cell (AV.vs 1)), (0, 8, Cont.cell (AV.int IntKind.i64 0)), (0, 9, Cont.cell (AV.int IntKind.i64 (bif sE m w == 0 then rm m w 0 else 0))), (0, 10, Cont.cell (AV.vs 2)), (0, 11, Cont.cell (AV.int IntKind.i64 (sE m w))), (0, 13, Cont.cell (AV.int IntKind.i64 (↑i : Int))), (0, 77, Cont.cell (AV.bool !lineF m w)), (0, 123, Cont.cell (AV.bool (decide ((↑i : Int) < (↑m : Int))))), (1, 0, Cont.vec 1 3 (bif 0 == 0 then m + 1 else 0) (nI (qW m w k))), (2, 0, Cont.vec 1 3 (bif sE m w == 0 then m - 1 else 0) (nI fun i => rm m w (1 + i)))], 35, 211⟩) (by kernel_rfl) (by kernel_rfl) ?_
            refine evC_if (q := decide ((↑i : Int) < (↑m : Int))) (by kernel_rfl) (fun hc => ?_) (fun hc => ?_)
            · have hlt : i < m := by have := of_decide_eq_true hc; omega
              clear hc
              refine evC_skip ?_
              refine then_normal ?_
              refine evC_seq ?_
              refine evC_block ?_
              refine evC_go (dec := []) (ks := [(0, 0), (0, 1), (0, 4), (0, 7), (0, 8), (0, 9), (0, 10), (0, 11), (0, 13), (0, 77), (0, 134), (1, 0), (2, 0)]) (ps := [(0 : Int) ≤ (↑i : Int), (↑i : Int) < (↑(bif (0 : Nat) == (0 : Nat) then m + (1 : Nat) else (0 : Nat)) : Int), (1 : Nat) = (1 : Nat), (0 : Int) ≤ (↑i : Int), (↑i : Int) < (↑(bif (0 : Nat) == (0 : Nat) then m + (1 : Nat) else (0 : Nat)) : Int), (1 : Nat) = (1 : Nat), (0 : Int) ≤ (↑i : Int), (↑i : Int) < (↑m : Int), (1 : Nat) = (1 : Nat)]) (s' := ⟨[(0, 0, Cont.cell (AV.rs 1 m false (nI w))), (0, 1, Cont.cell (AV.int IntKind.i64 k)), (0, 4, Cont.cell (AV.bool false)), (0, 7, Cont.cell (AV.vs 1)), (0, 8, Cont.cell (AV.int IntKind.i64 0)), (0, 9, Cont.cell (AV.int IntKind.i64 (bif sE m w == 0 then rm m w 0 else 0))), (0, 10, Cont.cell (AV.vs 2)), (0, 11, Cont.cell (AV.int IntKind.i64 (sE m w))), (0, 13, Cont.cell (AV.int IntKind.i64 (↑i : Int))), (0, 77, Cont.cell (AV.bool !lineF m w)), (0, 134, Cont.cell (AV.bool (qW m w k i != w i))), (1, 0, Cont.vec 1 3 (bif 0 == 0 then m + 1 else 0) (nI (qW m w k))), (2, 0, Cont.vec 1 3 (bif sE m w == 0 then m - 1 else 0) (nI fun i => rm m w (1 + i)))], 107, 211⟩) (by kernel_rfl) (by kernel_rfl) ?_ ?_
              · simp only [All]
                repeat' apply And.intro
                all_goals first | trivial | omega | (show (i : Int) < ((m + 1 : Nat) : Int); omega)
              have hq : qW m w k i = w i := by unfold qW; rw [blt_yes hlt]; rfl
              refine evC_if (q := qW m w k i != w i) (by kernel_rfl) (fun hc => ?_) (fun hc => ?_)
              · exfalso
                have hc : (qW m w k i != w i) = true := hc
                rw [hq] at hc; simp at hc
              clear hc
              refine evC_skip ?_
              refine block_normal ?_
              refine then_normal ?_
              refine evC_goL0 (dec := []) (ks := [(0, 0), (0, 1), (0, 4), (0, 7), (0, 8), (0, 9), (0, 10), (0, 11), (0, 13), (0, 77), (1, 0), (2, 0)]) (s' := ⟨[(0, 0, Cont.cell (AV.rs 1 m false (nI w))), (0, 1, Cont.cell (AV.int IntKind.i64 k)), (0, 4, Cont.cell (AV.bool false)), (0, 7, Cont.cell (AV.vs 1)), (0, 8, Cont.cell (AV.int IntKind.i64 0)), (0, 9, Cont.cell (AV.int IntKind.i64 (bif sE m w == 0 then rm m w 0 else 0))), (0, 10, Cont.cell (AV.vs 2)), (0, 11, Cont.cell (AV.int IntKind.i64 (sE m w))), (0, 13, Cont.cell (AV.int IntKind.i64 (IntKind.i64.wrap ((↑i : Int) + 1)))), (0, 77, Cont.cell (AV.bool !lineF m w)), (1, 0, Cont.vec 1 3 (bif 0 == 0 then m + 1 else 0) (nI (qW m w k))), (2, 0, Cont.vec 1 3 (bif sE m w == 0 then m - 1 else 0) (nI fun i => rm m w (1 + i)))], 131, 211⟩) (by kernel_rfl) (by kernel_rfl) ?_
              rw [wrap_add_one hlt (by omega)]
              refine round_normal (⟨i + 1, by omega⟩) (wk_go [1, 2] rfl (by decide) rfl rfl ⟨⟨_, rfl, rfl⟩, ⟨_, rfl, rfl⟩, ⟨_, rfl, rfl⟩, ⟨_, rfl, rfl⟩, ⟨_, rfl, rfl⟩, ⟨_, rfl, rfl⟩, ⟨_, rfl, rfl⟩, ⟨_, rfl, rfl⟩, ⟨_, rfl, rfl⟩, ⟨_, rfl, rfl⟩, ⟨_, rfl, ⟨rfl, rfl, rfl, fun _ _ => rfl⟩⟩, ⟨_, rfl, ⟨rfl, rfl, rfl, fun _ _ => rfl⟩⟩, trivial⟩) ?_
              show m - (i + 1) < m - i; omega
            · clear hc
              refine evC_exit ?_
              refine then_exit ?_
              refine round_exit ?_
              refine block_exit ?_
              refine block_normal ?_
              refine cut_normal (()) (wk_go [1, 2] rfl (by decide) rfl rfl ⟨⟨_, rfl, rfl⟩, ⟨_, rfl, rfl⟩, ⟨_, rfl, rfl⟩, ⟨_, rfl, rfl⟩, ⟨_, rfl, rfl⟩, ⟨_, rfl, rfl⟩, ⟨_, rfl, rfl⟩, ⟨_, rfl, rfl⟩, ⟨_, rfl, rfl⟩, ⟨_, rfl, ⟨rfl, rfl, rfl, fun _ _ => rfl⟩⟩, ⟨_, rfl, ⟨rfl, rfl, rfl, fun _ _ => rfl⟩⟩, trivial⟩)
      intro _
      refine evC_seq ?_
      refine evC_go0 (dec := []) (ks := [(0, 0), (0, 4), (0, 9), (0, 10), (0, 11), (0, 162), (2, 0)]) (s' := ⟨[(0, 0, Cont.cell (AV.rs 1 m false (nI w))), (0, 4, Cont.cell (AV.bool false)), (0, 9, Cont.cell (AV.int IntKind.i64 (bif sE m w == 0 then rm m w 0 else 0))), (0, 10, Cont.cell (AV.vs 2)), (0, 11, Cont.cell (AV.int IntKind.i64 (sE m w))), (0, 162, Cont.cell (AV.bool ((↑m : Int) == 0))), (2, 0, Cont.vec 1 3 (bif sE m w == 0 then m - 1 else 0) (nI fun i => rm m w (1 + i)))], 27, 211⟩) (by kernel_rfl) (by kernel_rfl) ?_
      refine evC_if (q := (↑m : Int) == 0) (by kernel_rfl) (fun hc => ?_) (fun hc => ?_)
      · have hm : m = 0 := by
          have : (m : Int) = 0 := by simpa using hc
          omega
        have e2 : sE m w = 6 := by unfold sE; rw [hl, hm]; rfl
        rw [e2]
        refine evC_go0 (dec := []) (ks := [(0, 0), (0, 4), (0, 9), (0, 10), (0, 11), (2, 0)]) (s' := ⟨[(0, 0, Cont.cell (AV.rs 1 m false (nI w))), (0, 4, Cont.cell (AV.bool (bif bif bif (bif 6 == 0 then rm m w 0 else 0) == 0 then (↑(bif 6 == 0 then m - 1 else 0) : Int) == 0 else false then 6 == 6 else false then true else false))), (0, 9, Cont.cell (AV.int IntKind.i64 (bif 6 == 0 then rm m w 0 else 0))), (0, 10, Cont.cell (AV.vs 2)), (0, 11, Cont.cell (AV.int IntKind.i64 6)), (2, 0, Cont.vec 1 3 0 (nI fun i => rm m w (1 + i)))], 147, 211⟩) (by kernel_rfl) (by kernel_rfl) ?_
        refine evC_ret ?_
        refine then_ret ?_
        refine post_ret ?_
        refine ends_flat (vs := [AV.bool (bif bif bif (bif 6 == 0 then rm m w 0 else 0) == 0 then (↑(bif 6 == 0 then m - 1 else 0) : Int) == 0 else false then 6 == 6 else false then true else false)]) (Nat.zero_lt_succ _) (by kernel_rfl) (flat_of _ (by kernel_rfl)) rfl ?_
        rfl
      · have hm : ¬ m = 0 := by
          have : ¬ (m : Int) = 0 := by simpa using hc
          omega
        have e2 : sE m w = 0 := by
          have : (m == 0) = false := by simpa using hm
          unfold sE; rw [hl, this]; rfl
        have e3 : rm m w 0 = w 0 := rm_lt (by omega)
        clear hc
        rw [e2, e3]
        have e0 : (bif (0 : Int) == 0 then m - 1 else 0) = m - 1 := rfl
        have e4 : (bif (0 : Int) == 0 then w 0 else 0) = w 0 := rfl
        rw [e0, e4]
        refine evC_skip ?_
        refine then_normal ?_
        refine evC_seq ?_
        refine evC_go (dec := []) (ks := [(0, 0), (0, 4), (0, 10), (0, 193), (2, 0)]) (ps := [(0 : Int) ≤ (0 : Int), (0 : Int) < (↑m : Int), (1 : Nat) = (1 : Nat)]) (s' := ⟨[(0, 0, Cont.cell (AV.rs 1 m false (nI w))), (0, 4, Cont.cell (AV.bool false)), (0, 10, Cont.cell (AV.vs 2)), (0, 193, Cont.cell (AV.bool (bif bif w 0 != w (Int.toNat 0) then true else (↑(m - 1) : Int) != IntKind.i64.wrap ((↑m : Int) - 1) then true else 0 != 0))), (2, 0, Cont.vec 1 3 (m - 1) (nI fun i => rm m w (1 + i)))], 163, 211⟩) (by kernel_rfl) (by kernel_rfl) ?_ ?_
        · (simp only [All]; (repeat' apply And.intro) <;> (try intro _) <;> (try intro _) <;> (repeat' apply And.intro) <;> (try intro _) <;> (try intro _) <;> first | trivial | assumption | exact .inr trivial | exact .inr rfl | omega | rfl | exact ⟨_, rfl, rfl⟩ | exact ⟨rfl, rfl⟩ | exact ⟨fun _ => rfl, fun _ => rfl⟩ | (unfold maxLen; omega) | (unfold i64R; first | omega | decide) | decide)
        rw [i64_in ((m : Int) - 1) (by omega)]
        refine evC_if (q := bif bif w 0 != w (Int.toNat 0) then true else (↑(m - 1) : Int) != (↑m : Int) - 1 then true else 0 != 0) (by kernel_rfl) (fun hc => ?_) (fun hc => ?_)
        · exfalso
          have : ((m - 1 : Nat) : Int) = (m : Int) - 1 := by omega
          rw [this] at hc; simp at hc
        clear hc
        refine evC_skip ?_
        refine then_normal ?_
        refine evC_seq ?_
        refine evC_go0 (dec := []) (ks := [(0, 0), (0, 4), (0, 10), (0, 14), (2, 0)]) (s' := ⟨[(0, 0, Cont.cell (AV.rs 1 m false (nI w))), (0, 4, Cont.cell (AV.bool false)), (0, 10, Cont.cell (AV.vs 2)), (0, 14, Cont.cell (AV.int IntKind.i64 0)), (2, 0, Cont.vec 1 3 (m - 1) (nI fun i => rm m w (1 + i)))], 171, 211⟩) (by kernel_rfl) (by kernel_rfl) ?_
        refine evC_block ?_
        refine evC_loop (ι := { i : Nat // i ≤ m - 1 }) (fun y => ⟨[(0, 0, Cont.cell (AV.rs 1 m false (nI w))), (0, 4, Cont.cell (AV.bool false)), (0, 10, Cont.cell (AV.vs 1)), (0, 14, .cell (.int .i64 (y.1 : Nat))), (1, 0, Cont.vec 1 3 (m - 1) (nI fun i => rm m w (1 + i)))], 2, 211⟩) (fun y => m - 1 - y.1) ⟨0, Nat.zero_le _⟩ (wk_go [2] rfl (by decide) rfl rfl ⟨⟨_, rfl, rfl⟩, ⟨_, rfl, rfl⟩, ⟨_, rfl, rfl⟩, ⟨_, rfl, rfl⟩, ⟨_, rfl, rfl, rfl, rfl, fun _ _ => rfl⟩, trivial⟩) ?_
        rintro ⟨i, hi⟩
        dsimp only at hi ⊢
        refine evC_seq ?_
        refine evC_go0 (dec := []) (ks := [(0, 0), (0, 4), (0, 10), (0, 14), (0, 197), (1, 0)]) (s' := ⟨[(0, 0, Cont.cell (AV.rs 1 m false (nI w))), (0, 4, Cont.cell (AV.bool false)), (0, 10, Cont.cell (AV.vs 1)), (0, 14, Cont.cell (AV.int IntKind.i64 (↑i : Int))), (0, 197, Cont.cell (AV.bool (decide ((↑i : Int) < (↑(m - 1) : Int))))), (1, 0, Cont.vec 1 3 (m - 1) (nI fun i => rm m w (1 + i)))], 34, 211⟩) (by kernel_rfl) (by kernel_rfl) ?_
        refine evC_if (q := decide ((↑i : Int) < (↑(m - 1) : Int))) (by kernel_rfl) (fun hc => ?_) (fun hc => ?_)
        · have hlt : i < m - 1 := by have := of_decide_eq_true hc; omega
          clear hc
          refine evC_skip ?_
          refine then_normal ?_
          refine evC_seq ?_
          refine evC_block ?_
          refine evC_go (dec := []) (ks := [(0, 0), (0, 4), (0, 10), (0, 14), (0, 209), (1, 0)]) (ps := [(0 : Int) ≤ (↑i : Int), (↑i : Int) < (↑(m - (1 : Nat)) : Int), (1 : Nat) = (1 : Nat), (0 : Int) ≤ (↑i : Int), (↑i : Int) < (↑(m - (1 : Nat)) : Int), (1 : Nat) = (1 : Nat), (0 : Int) ≤ IntKind.i64.wrap ((↑i : Int) + (1 : Int)), IntKind.i64.wrap ((↑i : Int) + (1 : Int)) < (↑m : Int), (1 : Nat) = (1 : Nat)]) (s' := ⟨[(0, 0, Cont.cell (AV.rs 1 m false (nI w))), (0, 4, Cont.cell (AV.bool false)), (0, 10, Cont.cell (AV.vs 1)), (0, 14, Cont.cell (AV.int IntKind.i64 (↑i : Int))), (0, 209, Cont.cell (AV.bool (rm m w (1 + i) != w (Int.toNat (IntKind.i64.wrap ((↑i : Int) + 1)))))), (1, 0, Cont.vec 1 3 (m - 1) (nI fun i => rm m w (1 + i)))], 114, 211⟩) (by kernel_rfl) (by kernel_rfl) ?_ ?_
          · rw [i64_in ((i : Int) + 1) (by omega)]
            (simp only [All]; (repeat' apply And.intro) <;> (try intro _) <;> (try intro _) <;> (repeat' apply And.intro) <;> (try intro _) <;> (try intro _) <;> first | trivial | assumption | exact .inr trivial | exact .inr rfl | omega | rfl | exact ⟨_, rfl, rfl⟩ | exact ⟨rfl, rfl⟩ | exact ⟨fun _ => rfl, fun _ => rfl⟩ | (unfold maxLen; omega) | (unfold i64R; first | omega | decide) | decide)
          rw [i64_in ((i : Int) + 1) (by omega)]
          refine evC_if (q := rm m w (1 + i) != w (Int.toNat ((↑i : Int) + 1))) (by kernel_rfl) (fun hc => ?_) (fun hc => ?_)
          · exfalso
            have e5 : ((i : Int) + 1).toNat = i + 1 := by omega
            have hc : (rm m w (1 + i) != w ((i : Int) + 1).toNat) = true := hc
            rw [e5, rm_lt (by omega), Nat.add_comm] at hc; simp at hc
          clear hc
          refine evC_skip ?_
          refine block_normal ?_
          refine then_normal ?_
          refine evC_goL0 (dec := []) (ks := [(0, 0), (0, 4), (0, 10), (0, 14), (1, 0)]) (s' := ⟨[(0, 0, Cont.cell (AV.rs 1 m false (nI w))), (0, 4, Cont.cell (AV.bool false)), (0, 10, Cont.cell (AV.vs 1)), (0, 14, Cont.cell (AV.int IntKind.i64 (IntKind.i64.wrap ((↑i : Int) + 1)))), (1, 0, Cont.vec 1 3 (m - 1) (nI fun i => rm m w (1 + i)))], 138, 211⟩) (by kernel_rfl) (by kernel_rfl) ?_
          rw [wrap_add_one hlt (by omega)]
          refine round_normal (⟨i + 1, by omega⟩) (wk_go [1] rfl (by decide) rfl rfl ⟨⟨_, rfl, rfl⟩, ⟨_, rfl, rfl⟩, ⟨_, rfl, rfl⟩, ⟨_, rfl, rfl⟩, ⟨_, rfl, ⟨rfl, rfl, rfl, fun _ _ => rfl⟩⟩, trivial⟩) ?_
          show m - 1 - (i + 1) < m - 1 - i; omega
        · clear hc
          refine evC_exit ?_
          refine then_exit ?_
          refine round_exit ?_
          refine block_exit ?_
          refine then_normal ?_
          refine evC_go0 (dec := []) (ks := [(0, 4)]) (s' := ⟨[(0, 4, Cont.cell (AV.bool true))], 50, 211⟩) (by kernel_rfl) (by kernel_rfl) ?_
          refine evC_ret ?_
          refine post_ret ?_
          refine ends_flat (vs := [AV.bool true]) (Nat.zero_lt_succ _) (by kernel_rfl) (flat_of _ (by kernel_rfl)) rfl ?_
          rfl
  · cases e
end Go.Eng.S20
