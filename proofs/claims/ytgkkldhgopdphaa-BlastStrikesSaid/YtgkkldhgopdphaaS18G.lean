/- Seat 18: the law BlastStrikes, walked. -/
import Derived.Test.YtgkkldhgopdphaaEngX
import Derived.Test.YtgkkldhgopdphaaS18D
set_option linter.unusedSimpArgs false
set_option linter.unusedVariables false
namespace Go.Eng.S18
open Go.Proofs Go.IntWalk
set_option maxRecDepth 10000

theorem deadL_pre (f g : Nat → AV) (m : Nat) {i n : Nat} (h : i ≤ n) : ∃ t, deadL f g m n = deadL f g m i ++ t := by
  obtain ⟨k, rfl⟩ : ∃ k, n = i + k := ⟨n - i, by omega⟩
  clear h
  induction k with
  | zero => exact ⟨[], by simp⟩
  | succ k ih =>
    obtain ⟨t, ht⟩ := ih
    rw [← Nat.add_assoc]
    by_cases hd : lf g m (f (i + k)) = 0 ∧ 0 < cv 2 (f (i + k))
    · exact ⟨t ++ [((i + k : Nat) : Int)], by rw [deadL_yes hd, ht, List.append_assoc]⟩
    · exact ⟨t, by rw [deadL_no hd, ht]⟩
theorem deadL_at {f g : Nat → AV} {m i n : Nat} (h : i < n) (hd : lf g m (f i) = 0 ∧ 0 < cv 2 (f i)) : (deadL f g m i).length < (deadL f g m n).length ∧ (deadL f g m n).getD (deadL f g m i).length 0 = i := by
  obtain ⟨t, ht⟩ := deadL_pre f g m (i := i + 1) (n := n) h
  rw [ht, deadL_yes hd]
  exact ⟨by simp, by simp [List.getD_eq_getElem?_getD]⟩

def sBlastStrikes : Spec := fun args _ _ => match args with
  | [.rs 3 n false f, .rs 4 m false g] => some ⟨[(∀ i, i < n → f i = c3 f i) ∧ n ≤ maxLen, (∀ i, i < m → g i = c4 g i) ∧ m ≤ maxLen], .bool true, [], []⟩
  | _ => none
theorem blastStrikes_ok : SpecOK Try.prog 4 sBlastStrikes := by
  refine spec_own (by kernel_rfl) T_ok (sget_cons few_ok (sget_cons strike_ok (sget_cons may_ok (sget_cons left_ok (sget_cons awake_ok sget_nil))))) Try.func4 rfl rfl fun args hr nb out e => ?_
  unfold sBlastStrikes at e
  split at e
  · rename_i n f m g
    injection e with e; subst e
    refine ⟨(fun _ h => nomatch h), true, [.rs 3 n false (bodyC f), .rs 4 m false (blowC g)], rfl, fun hs => ?_⟩
    obtain ⟨h1, h3⟩ := hs _ List.mem_cons_self
    obtain ⟨h2, h4⟩ := hs _ (List.mem_cons_of_mem _ List.mem_cons_self)
    refine ⟨.cons _ _ _ _ (.rs _ _ _ _ _ _ fun i hi => ⟨h1 i hi, (bodyC_flat f i).has⟩) (.cons _ _ _ _ (.rs _ _ _ _ _ _ fun i hi => ⟨h2 i hi, (blowC_flat g i).has⟩) .nil), ?_⟩
    clear hs
    refine evC_go0 (dec := []) (ks := [(0, 0), (0, 1), (0, 4)]) (s' := ⟨[(0, 0, Cont.cell (AV.rs 3 n false (bodyC f))), (0, 1, Cont.cell (AV.rs 4 m false (blowC g))), (0, 4, Cont.cell (AV.bool false))], 9, 127⟩) (by kernel_rfl) (by kernel_rfl) ?_
    refine evC_go (dec := []) (ks := [(0, 0), (0, 1), (0, 4)]) (ps := [(∀ (i : Nat), i < n → bodyC f i = bodyC (bodyC f) i) ∧ (∀ (i : Nat), i < m → blowC g i = blowC (blowC g) i) ∧ n ≤ maxLen ∧ m ≤ maxLen]) (s' := ⟨[(0, 0, Cont.cell (AV.rs 3 (fewN n) false (bodyC (bodyC f)))), (0, 1, Cont.cell (AV.rs 4 (fewN m) false (blowC (blowC g)))), (0, 4, Cont.cell (AV.bool false))], 73, 127⟩) (by kernel_rfl) (by kernel_rfl) ?_ ?_
    · exact ⟨fun i hi => rfl, fun i hi => rfl, h3, h4⟩
    have hN := fewN_le n
    have hM := fewN_le m
    generalize fewN n = N at *
    generalize fewN m = M at *
    clear h1 h2 h3 h4
    skip
    refine evC_wk (s' := ⟨[(0, 0, .cell (.rs 3 N false (bodyC f))), (0, 1, .cell (.rs 4 M false (blowC g))), (0, 4, Cont.cell (AV.bool false))], 1, 127⟩) _ (wk_go [] rfl (by decide) rfl rfl ⟨⟨_, rfl, rfl⟩, ⟨_, rfl, rfl⟩, ⟨_, rfl, rfl⟩, trivial⟩) ?_
    refine evC_go (dec := []) (ks := [(0, 0), (0, 1), (0, 4), (0, 5), (17, 0)]) (ps := [((0 : Nat) + N) * (24 : Nat) ≤ (140737488355328 : Nat), (0 : Nat) + N ≤ maxLen, N = (0 : Nat) ∨ (3 : Nat) = (3 : Nat), (3 : Nat) = (3 : Nat), (38 : Nat) = (38 : Nat)]) (s' := ⟨[(0, 0, Cont.cell (AV.rs 3 N false (bodyC f))), (0, 1, Cont.cell (AV.rs 4 M false (blowC g))), (0, 4, Cont.cell (AV.bool false)), (0, 5, Cont.cell (AV.vs 17)), (17, 0, Cont.vec 3 38 (0 + N) (catF 0 (pget []) (bodyC f)))], 33, 127⟩) (by kernel_rfl) (by kernel_rfl) ?_ ?_
    · refine ⟨?_, ?_, .inr rfl, rfl, rfl⟩ <;> (try unfold maxLen) <;> omega
    refine evC_wk (s' := ⟨[(0, 0, Cont.cell (AV.rs 3 N false (bodyC f))), (0, 1, Cont.cell (AV.rs 4 M false (blowC g))), (0, 4, Cont.cell (AV.bool false)), (0, 5, Cont.cell (AV.vs 1)), (1, 0, .vec 3 38 N (bodyC f))], 2, 127⟩) _ (wk_go [17] rfl (by decide) rfl rfl ⟨⟨_, rfl, rfl⟩, ⟨_, rfl, rfl⟩, ⟨_, rfl, rfl⟩, ⟨_, rfl, rfl⟩, ⟨_, rfl, ?_⟩, trivial⟩) ?_
    · exact ⟨rfl, rfl, by simp, fun i hi => by rw [catF_ge (Nat.zero_le _)]; rfl⟩
    refine evC_go (dec := []) (ks := [(0, 0), (0, 1), (0, 4), (0, 5), (0, 6), (0, 7), (0, 8), (1, 0), (18, 0), (19, 0)]) (ps := [(∀ (i : Nat), i < N → bodyC f i = bodyC (bodyC f) i) ∧ (∀ (i : Nat), i < M → blowC g i = blowC (blowC g) i) ∧ N ≤ maxLen ∧ M ≤ maxLen]) (s' := ⟨[(0, 0, Cont.cell (AV.rs 3 N false (bodyC f))), (0, 1, Cont.cell (AV.rs 4 M false (blowC g))), (0, 4, Cont.cell (AV.bool false)), (0, 5, Cont.cell (AV.vs 1)), (0, 6, Cont.cell (AV.vs 18)), (0, 7, Cont.cell (AV.vs 19)), (0, 8, Cont.cell (AV.int IntKind.i64 (errF (okAll N (bodyC f) M (blowC g))))), (1, 0, Cont.vec 3 38 N (bodyC f)), (18, 0, Cont.vec 3 38 (bif okAll N (bodyC f) M (blowC g) then N else 0) (outC (bodyC f) (blowC g) M)), (19, 0, Cont.vec 1 3 (bif okAll N (bodyC f) M (blowC g) then List.length (deadL (bodyC f) (blowC g) M N) else 0) (lst (deadL (bodyC f) (blowC g) M N)))], 82, 127⟩) (by kernel_rfl) (by kernel_rfl) ?_ ?_
    · exact ⟨fun i hi => rfl, fun i hi => rfl, by unfold maxLen; omega, by unfold maxLen; omega⟩
    refine evC_seq ?_
    refine evC_go (dec := []) (ks := [(0, 0), (0, 1), (0, 4), (0, 5), (0, 6), (0, 7), (0, 8), (0, 31), (1, 0), (18, 0), (19, 0)]) (ps := [(∀ (i : Nat), i < N → bodyC f i = bodyC (bodyC f) i) ∧ (∀ (i : Nat), i < M → blowC g i = blowC (blowC g) i) ∧ N ≤ maxLen ∧ M ≤ maxLen]) (s' := ⟨[(0, 0, Cont.cell (AV.rs 3 N false (bodyC f))), (0, 1, Cont.cell (AV.rs 4 M false (blowC g))), (0, 4, Cont.cell (AV.bool false)), (0, 5, Cont.cell (AV.vs 1)), (0, 6, Cont.cell (AV.vs 18)), (0, 7, Cont.cell (AV.vs 19)), (0, 8, Cont.cell (AV.int IntKind.i64 (errF (okAll N (bodyC f) M (blowC g))))), (0, 31, Cont.cell (AV.bool !okAll N (bodyC f) M (blowC g))), (1, 0, Cont.vec 3 38 N (bodyC f)), (18, 0, Cont.vec 3 38 (bif okAll N (bodyC f) M (blowC g) then N else 0) (outC (bodyC f) (blowC g) M)), (19, 0, Cont.vec 1 3 (bif okAll N (bodyC f) M (blowC g) then List.length (deadL (bodyC f) (blowC g) M N) else 0) (lst (deadL (bodyC f) (blowC g) M N)))], 114, 127⟩) (by kernel_rfl) (by kernel_rfl) ?_ ?_
    · exact ⟨fun i hi => rfl, fun i hi => rfl, by unfold maxLen; omega, by unfold maxLen; omega⟩
    have hlf : ∀ i, lf (blowC g) M (bodyC f i) = leftF (blowC g) M (cv 0 (f i)) (cv 1 (f i)) (cv 2 (f i)) := fun i => rfl
    cases hok : okAll N (bodyC f) M (blowC g) with
    | false =>
      simp only [cond_false]
      refine evC_if (q := true) (by kernel_rfl) (fun hc => ?_) (fun hc => ?_)
      · refine evC_go0 (dec := []) (ks := [(0, 0), (0, 1), (0, 4), (0, 5), (0, 6), (0, 7), (0, 8), (1, 0), (18, 0), (19, 0)]) (s' := ⟨[(0, 0, Cont.cell (AV.rs 3 N false (bodyC f))), (0, 1, Cont.cell (AV.rs 4 M false (blowC g))), (0, 4, Cont.cell (AV.bool true)), (0, 5, Cont.cell (AV.vs 1)), (0, 6, Cont.cell (AV.vs 18)), (0, 7, Cont.cell (AV.vs 19)), (0, 8, Cont.cell (AV.int IntKind.i64 (errF false))), (1, 0, Cont.vec 3 38 N (bodyC f)), (18, 0, Cont.vec 3 38 0 (outC (bodyC f) (blowC g) M)), (19, 0, Cont.vec 1 3 0 (lst (deadL (bodyC f) (blowC g) M N)))], 242, 127⟩) (by kernel_rfl) (by kernel_rfl) ?_
        refine evC_ret ?_
        refine then_ret ?_
        refine post_ret ?_
        refine ends_flat (vs := [AV.bool true]) (Nat.zero_lt_succ _) (by kernel_rfl) (flat_of _ (by kernel_rfl)) rfl ?_
        rfl
      · simp at hc
    | true =>
      simp only [cond_true]
      refine evC_if (q := false) (by kernel_rfl) (fun hc => ?_) (fun hc => ?_)
      · simp at hc
      clear hc
      refine evC_skip ?_
      refine then_normal ?_
      refine evC_seq ?_
      refine evC_go0 (dec := []) (ks := [(0, 0), (0, 1), (0, 4), (0, 5), (0, 6), (0, 7), (0, 55), (1, 0), (18, 0), (19, 0)]) (s' := ⟨[(0, 0, Cont.cell (AV.rs 3 N false (bodyC f))), (0, 1, Cont.cell (AV.rs 4 M false (blowC g))), (0, 4, Cont.cell (AV.bool false)), (0, 5, Cont.cell (AV.vs 1)), (0, 6, Cont.cell (AV.vs 18)), (0, 7, Cont.cell (AV.vs 19)), (0, 55, Cont.cell (AV.bool (bif (↑N : Int) != (↑N : Int) then true else errF true != 0))), (1, 0, Cont.vec 3 38 N (bodyC f)), (18, 0, Cont.vec 3 38 N (outC (bodyC f) (blowC g) M)), (19, 0, Cont.vec 1 3 (List.length (deadL (bodyC f) (blowC g) M N)) (lst (deadL (bodyC f) (blowC g) M N)))], 186, 127⟩) (by kernel_rfl) (by kernel_rfl) ?_
      refine evC_if (q := bif (↑N : Int) != (↑N : Int) then true else errF true != 0) (by kernel_rfl) (fun hc => ?_) (fun hc => ?_)
      · exfalso
        simp [errF] at hc
      clear hc
      refine evC_skip ?_
      refine then_normal ?_
      refine evC_go0 (dec := []) (ks := [(0, 0), (0, 1), (0, 4), (0, 5), (0, 6), (0, 7), (0, 9), (1, 0), (18, 0), (19, 0)]) (s' := ⟨[(0, 0, Cont.cell (AV.rs 3 N false (bodyC f))), (0, 1, Cont.cell (AV.rs 4 M false (blowC g))), (0, 4, Cont.cell (AV.bool false)), (0, 5, Cont.cell (AV.vs 1)), (0, 6, Cont.cell (AV.vs 18)), (0, 7, Cont.cell (AV.vs 19)), (0, 9, Cont.cell (AV.int IntKind.i64 0)), (1, 0, Cont.vec 3 38 N (bodyC f)), (18, 0, Cont.vec 3 38 N (outC (bodyC f) (blowC g) M)), (19, 0, Cont.vec 1 3 (List.length (deadL (bodyC f) (blowC g) M N)) (lst (deadL (bodyC f) (blowC g) M N)))], 194, 127⟩) (by kernel_rfl) (by kernel_rfl) ?_
      refine evC_seq ?_
      refine evC_go0 (dec := []) (ks := [(0, 0), (0, 1), (0, 4), (0, 5), (0, 6), (0, 7), (0, 9), (0, 10), (1, 0), (18, 0), (19, 0)]) (s' := ⟨[(0, 0, Cont.cell (AV.rs 3 N false (bodyC f))), (0, 1, Cont.cell (AV.rs 4 M false (blowC g))), (0, 4, Cont.cell (AV.bool false)), (0, 5, Cont.cell (AV.vs 1)), (0, 6, Cont.cell (AV.vs 18)), (0, 7, Cont.cell (AV.vs 19)), (0, 9, Cont.cell (AV.int IntKind.i64 0)), (0, 10, Cont.cell (AV.int IntKind.i64 0)), (1, 0, Cont.vec 3 38 N (bodyC f)), (18, 0, Cont.vec 3 38 N (outC (bodyC f) (blowC g) M)), (19, 0, Cont.vec 1 3 (List.length (deadL (bodyC f) (blowC g) M N)) (lst (deadL (bodyC f) (blowC g) M N)))], 202, 127⟩) (by kernel_rfl) (by kernel_rfl) ?_
      refine evC_block ?_
      refine evC_loop (ι := { i : Nat // i ≤ N }) (fun x => ⟨[(0, 0, Cont.cell (AV.rs 3 N false (bodyC f))), (0, 1, Cont.cell (AV.rs 4 M false (blowC g))), (0, 4, Cont.cell (AV.bool false)), (0, 5, Cont.cell (AV.vs 1)), (0, 6, Cont.cell (AV.vs 2)), (0, 7, Cont.cell (AV.vs 3)), (0, 9, .cell (.int .i64 ((deadL (bodyC f) (blowC g) M x.1).length : Nat))), (0, 10, .cell (.int .i64 (x.1 : Nat))), (1, 0, Cont.vec 3 38 N (bodyC f)), (2, 0, Cont.vec 3 38 N (outC (bodyC f) (blowC g) M)), (3, 0, Cont.vec 1 3 (List.length (deadL (bodyC f) (blowC g) M N)) (lst (deadL (bodyC f) (blowC g) M N)))], 4, 127⟩) (fun x => N - x.1) ⟨0, Nat.zero_le _⟩ (wk_go [1, 18, 19] rfl (by decide) rfl rfl ⟨⟨_, rfl, rfl⟩, ⟨_, rfl, rfl⟩, ⟨_, rfl, rfl⟩, ⟨_, rfl, rfl⟩, ⟨_, rfl, rfl⟩, ⟨_, rfl, rfl⟩, ⟨_, rfl, rfl⟩, ⟨_, rfl, rfl⟩, ⟨_, rfl, rfl, rfl, rfl, fun _ _ => rfl⟩, ⟨_, rfl, rfl, rfl, rfl, fun _ _ => rfl⟩, ⟨_, rfl, rfl, rfl, rfl, fun _ _ => rfl⟩, trivial⟩) ?_
      rintro ⟨i, hin⟩
      have hdl := deadL_len (bodyC f) (blowC g) M i
      have hdN := deadL_len (bodyC f) (blowC g) M N
      refine evC_seq ?_
      refine evC_go0 (dec := []) (ks := [(0, 0), (0, 1), (0, 4), (0, 5), (0, 6), (0, 7), (0, 9), (0, 10), (0, 59), (1, 0), (2, 0), (3, 0)]) (s' := ⟨[(0, 0, Cont.cell (AV.rs 3 N false (bodyC f))), (0, 1, Cont.cell (AV.rs 4 M false (blowC g))), (0, 4, Cont.cell (AV.bool false)), (0, 5, Cont.cell (AV.vs 1)), (0, 6, Cont.cell (AV.vs 2)), (0, 7, Cont.cell (AV.vs 3)), (0, 9, Cont.cell (AV.int IntKind.i64 (↑(List.length (deadL (bodyC f) (blowC g) M i)) : Int))), (0, 10, Cont.cell (AV.int IntKind.i64 (↑i : Int))), (0, 59, Cont.cell (AV.bool (decide ((↑i : Int) < (↑N : Int))))), (1, 0, Cont.vec 3 38 N (bodyC f)), (2, 0, Cont.vec 3 38 N (outC (bodyC f) (blowC g) M)), (3, 0, Cont.vec 1 3 (List.length (deadL (bodyC f) (blowC g) M N)) (lst (deadL (bodyC f) (blowC g) M N)))], 36, 127⟩) (by kernel_rfl) (by kernel_rfl) ?_
      refine evC_if (q := decide ((↑i : Int) < (↑N : Int))) (by kernel_rfl) (fun hc => ?_) (fun hc => ?_)
      · have hlt : (i : Int) < (N : Int) := of_decide_eq_true hc
        clear hc
        have hh : cv 2 (f i) ≤ 9999 := by
          simp only [okAll, Bool.and_eq_true] at hok
          have := all_get hok.1.1.1 (by omega : i < N)
          simp only [mX, mayX, Bool.and_eq_true, inR_iff] at this
          exact this.2.2
        refine evC_skip ?_
        refine then_normal ?_
        refine evC_seq ?_
        refine evC_block ?_
        refine evC_go (dec := []) (ks := [(0, 0), (0, 1), (0, 4), (0, 5), (0, 6), (0, 7), (0, 9), (0, 10), (0, 11), (1, 0), (2, 0), (3, 0)]) (ps := [(0 : Int) ≤ (↑i : Int), (↑i : Int) < (↑N : Int), (3 : Nat) = (3 : Nat), (∀ (i : Nat), i < M → blowC g i = blowC (blowC g) i) ∧ M ≤ (281474976710656 : Nat) ∧ cv (2 : Nat) (f (Int.toNat (↑i : Int))) < (2 : Int) ^ (62 : Nat)]) (s' := ⟨[(0, 0, Cont.cell (AV.rs 3 N false (bodyC f))), (0, 1, Cont.cell (AV.rs 4 M false (blowC g))), (0, 4, Cont.cell (AV.bool false)), (0, 5, Cont.cell (AV.vs 1)), (0, 6, Cont.cell (AV.vs 2)), (0, 7, Cont.cell (AV.vs 3)), (0, 9, Cont.cell (AV.int IntKind.i64 (↑(List.length (deadL (bodyC f) (blowC g) M i)) : Int))), (0, 10, Cont.cell (AV.int IntKind.i64 (↑i : Int))), (0, 11, Cont.cell (AV.int IntKind.i64 (leftF (blowC g) M (cv 0 (f (Int.toNat (↑i : Int)))) (cv 1 (f (Int.toNat (↑i : Int)))) (cv 2 (f (Int.toNat (↑i : Int))))))), (1, 0, Cont.vec 3 38 N (bodyC f)), (2, 0, Cont.vec 3 38 N (outC (bodyC f) (blowC g) M)), (3, 0, Cont.vec 1 3 (List.length (deadL (bodyC f) (blowC g) M N)) (lst (deadL (bodyC f) (blowC g) M N)))], 92, 127⟩) (by kernel_rfl) (by kernel_rfl) ?_ ?_
        · simp only [Int.toNat_natCast]; (simp only [All]; (repeat' apply And.intro) <;> first | trivial | omega | (intro _; first | trivial | omega) | (intro _ _; rfl) | (unfold maxLen; omega))
        simp only [Int.toNat_natCast]
        refine evC_seq ?_
        refine evC_go (dec := []) (ks := [(0, 0), (0, 1), (0, 4), (0, 5), (0, 6), (0, 7), (0, 9), (0, 10), (0, 11), (0, 95), (1, 0), (2, 0), (3, 0)]) (ps := [(0 : Int) ≤ (↑i : Int), (↑i : Int) < (↑N : Int), (3 : Nat) = (3 : Nat), (0 : Int) ≤ (↑i : Int), (↑i : Int) < (↑N : Int), (3 : Nat) = (3 : Nat), (0 : Int) ≤ (↑i : Int), (↑i : Int) < (↑N : Int), (3 : Nat) = (3 : Nat), List.all [!!(cv (0 : Nat) (f (Int.toNat (↑i : Int))) == cv (0 : Nat) (f (Int.toNat (↑i : Int))) && (cv (1 : Nat) (f (Int.toNat (↑i : Int))) == cv (1 : Nat) (f (Int.toNat (↑i : Int))) && (cv (2 : Nat) (f (Int.toNat (↑i : Int))) == cv (2 : Nat) (f (Int.toNat (↑i : Int))) && true)))] id = true → (0 : Int) ≤ (↑i : Int), List.all [!!(cv (0 : Nat) (f (Int.toNat (↑i : Int))) == cv (0 : Nat) (f (Int.toNat (↑i : Int))) && (cv (1 : Nat) (f (Int.toNat (↑i : Int))) == cv (1 : Nat) (f (Int.toNat (↑i : Int))) && (cv (2 : Nat) (f (Int.toNat (↑i : Int))) == cv (2 : Nat) (f (Int.toNat (↑i : Int))) && true)))] id = true → (↑i : Int) < (↑N : Int), List.all [!!(cv (0 : Nat) (f (Int.toNat (↑i : Int))) == cv (0 : Nat) (f (Int.toNat (↑i : Int))) && (cv (1 : Nat) (f (Int.toNat (↑i : Int))) == cv (1 : Nat) (f (Int.toNat (↑i : Int))) && (cv (2 : Nat) (f (Int.toNat (↑i : Int))) == cv (2 : Nat) (f (Int.toNat (↑i : Int))) && true)))] id = true → (3 : Nat) = (3 : Nat), List.all [!!(cv (0 : Nat) (f (Int.toNat (↑i : Int))) == cv (0 : Nat) (f (Int.toNat (↑i : Int))) && (cv (1 : Nat) (f (Int.toNat (↑i : Int))) == cv (1 : Nat) (f (Int.toNat (↑i : Int))) && (cv (2 : Nat) (f (Int.toNat (↑i : Int))) == cv (2 : Nat) (f (Int.toNat (↑i : Int))) && true)))] id = true → (0 : Int) ≤ (↑i : Int), List.all [!!(cv (0 : Nat) (f (Int.toNat (↑i : Int))) == cv (0 : Nat) (f (Int.toNat (↑i : Int))) && (cv (1 : Nat) (f (Int.toNat (↑i : Int))) == cv (1 : Nat) (f (Int.toNat (↑i : Int))) && (cv (2 : Nat) (f (Int.toNat (↑i : Int))) == cv (2 : Nat) (f (Int.toNat (↑i : Int))) && true)))] id = true → (↑i : Int) < (↑N : Int), List.all [!!(cv (0 : Nat) (f (Int.toNat (↑i : Int))) == cv (0 : Nat) (f (Int.toNat (↑i : Int))) && (cv (1 : Nat) (f (Int.toNat (↑i : Int))) == cv (1 : Nat) (f (Int.toNat (↑i : Int))) && (cv (2 : Nat) (f (Int.toNat (↑i : Int))) == cv (2 : Nat) (f (Int.toNat (↑i : Int))) && true)))] id = true → (3 : Nat) = (3 : Nat), List.all [!!(cv (0 : Nat) (f (Int.toNat (↑i : Int))) == cv (0 : Nat) (f (Int.toNat (↑i : Int))) && (cv (1 : Nat) (f (Int.toNat (↑i : Int))) == cv (1 : Nat) (f (Int.toNat (↑i : Int))) && (cv (2 : Nat) (f (Int.toNat (↑i : Int))) == cv (2 : Nat) (f (Int.toNat (↑i : Int))) && true)))] id = true → (0 : Int) ≤ (↑i : Int), List.all [!!(cv (0 : Nat) (f (Int.toNat (↑i : Int))) == cv (0 : Nat) (f (Int.toNat (↑i : Int))) && (cv (1 : Nat) (f (Int.toNat (↑i : Int))) == cv (1 : Nat) (f (Int.toNat (↑i : Int))) && (cv (2 : Nat) (f (Int.toNat (↑i : Int))) == cv (2 : Nat) (f (Int.toNat (↑i : Int))) && true)))] id = true → (↑i : Int) < (↑N : Int), List.all [!!(cv (0 : Nat) (f (Int.toNat (↑i : Int))) == cv (0 : Nat) (f (Int.toNat (↑i : Int))) && (cv (1 : Nat) (f (Int.toNat (↑i : Int))) == cv (1 : Nat) (f (Int.toNat (↑i : Int))) && (cv (2 : Nat) (f (Int.toNat (↑i : Int))) == cv (2 : Nat) (f (Int.toNat (↑i : Int))) && true)))] id = true → (3 : Nat) = (3 : Nat), List.all [!!(cv (0 : Nat) (f (Int.toNat (↑i : Int))) == cv (0 : Nat) (f (Int.toNat (↑i : Int))) && (cv (1 : Nat) (f (Int.toNat (↑i : Int))) == cv (1 : Nat) (f (Int.toNat (↑i : Int))) && (cv (2 : Nat) (f (Int.toNat (↑i : Int))) == cv (2 : Nat) (f (Int.toNat (↑i : Int))) && true)))] id = true → (0 : Int) ≤ (↑i : Int), List.all [!!(cv (0 : Nat) (f (Int.toNat (↑i : Int))) == cv (0 : Nat) (f (Int.toNat (↑i : Int))) && (cv (1 : Nat) (f (Int.toNat (↑i : Int))) == cv (1 : Nat) (f (Int.toNat (↑i : Int))) && (cv (2 : Nat) (f (Int.toNat (↑i : Int))) == cv (2 : Nat) (f (Int.toNat (↑i : Int))) && true)))] id = true → (↑i : Int) < (↑N : Int), List.all [!!(cv (0 : Nat) (f (Int.toNat (↑i : Int))) == cv (0 : Nat) (f (Int.toNat (↑i : Int))) && (cv (1 : Nat) (f (Int.toNat (↑i : Int))) == cv (1 : Nat) (f (Int.toNat (↑i : Int))) && (cv (2 : Nat) (f (Int.toNat (↑i : Int))) == cv (2 : Nat) (f (Int.toNat (↑i : Int))) && true)))] id = true → (3 : Nat) = (3 : Nat)]) (s' := ⟨[(0, 0, Cont.cell (AV.rs 3 N false (bodyC f))), (0, 1, Cont.cell (AV.rs 4 M false (blowC g))), (0, 4, Cont.cell (AV.bool false)), (0, 5, Cont.cell (AV.vs 1)), (0, 6, Cont.cell (AV.vs 2)), (0, 7, Cont.cell (AV.vs 3)), (0, 9, Cont.cell (AV.int IntKind.i64 (↑(List.length (deadL (bodyC f) (blowC g) M i)) : Int))), (0, 10, Cont.cell (AV.int IntKind.i64 (↑i : Int))), (0, 11, Cont.cell (AV.int IntKind.i64 (leftF (blowC g) M (cv 0 (f i)) (cv 1 (f i)) (cv 2 (f i))))), (0, 95, Cont.cell (AV.bool (bif !(cv 0 (f (Int.toNat (↑i : Int))) == cv 0 (f (Int.toNat (↑i : Int))) && (cv 1 (f (Int.toNat (↑i : Int))) == cv 1 (f (Int.toNat (↑i : Int))) && (cv 2 (f (Int.toNat (↑i : Int))) == cv 2 (f (Int.toNat (↑i : Int))) && true))) then true else !(cv 0 (bodyC f (Int.toNat (↑i : Int))) == cv 0 (f (Int.toNat (↑i : Int))) && (cv 1 (bodyC f (Int.toNat (↑i : Int))) == cv 1 (f (Int.toNat (↑i : Int))) && (lf (blowC g) M (bodyC f (Int.toNat (↑i : Int))) == leftF (blowC g) M (cv 0 (f i)) (cv 1 (f i)) (cv 2 (f i)) && true)))))), (1, 0, Cont.vec 3 38 N (bodyC f)), (2, 0, Cont.vec 3 38 N (outC (bodyC f) (blowC g) M)), (3, 0, Cont.vec 1 3 (List.length (deadL (bodyC f) (blowC g) M N)) (lst (deadL (bodyC f) (blowC g) M N)))], 316, 127⟩) (by kernel_rfl) (by kernel_rfl) ?_ ?_
        · (simp only [All]; (repeat' apply And.intro) <;> first | trivial | omega | (intro _; first | trivial | omega) | (intro _ _; rfl) | (unfold maxLen; omega))
        refine evC_if (q := bif !(cv 0 (f (Int.toNat (↑i : Int))) == cv 0 (f (Int.toNat (↑i : Int))) && (cv 1 (f (Int.toNat (↑i : Int))) == cv 1 (f (Int.toNat (↑i : Int))) && (cv 2 (f (Int.toNat (↑i : Int))) == cv 2 (f (Int.toNat (↑i : Int))) && true))) then true else !(cv 0 (bodyC f (Int.toNat (↑i : Int))) == cv 0 (f (Int.toNat (↑i : Int))) && (cv 1 (bodyC f (Int.toNat (↑i : Int))) == cv 1 (f (Int.toNat (↑i : Int))) && (lf (blowC g) M (bodyC f (Int.toNat (↑i : Int))) == leftF (blowC g) M (cv 0 (f i)) (cv 1 (f i)) (cv 2 (f i)) && true)))) (by kernel_rfl) (fun hc => ?_) (fun hc => ?_)
        · exfalso
          simp only [Int.toNat_natCast, hlf, beq_self_eq_true, Bool.and_self, Bool.not_true, cond_false] at hc
          have e : ∀ j, cv j (bodyC f i) = cv j (f i) ∨ True := fun _ => .inr trivial
          change (!(cv 0 (f i) == cv 0 (f i) && (cv 1 (f i) == cv 1 (f i) && true))) = true at hc
          simp at hc
        clear hc
        refine evC_skip ?_
        refine then_normal ?_
        refine evC_go (dec := []) (ks := [(0, 0), (0, 1), (0, 4), (0, 5), (0, 6), (0, 7), (0, 9), (0, 10), (0, 105), (1, 0), (2, 0), (3, 0)]) (ps := [List.all [leftF (blowC g) M (cv (0 : Nat) (f i)) (cv (1 : Nat) (f i)) (cv (2 : Nat) (f i)) == (0 : Int)] id = true → (0 : Int) ≤ (↑i : Int), List.all [leftF (blowC g) M (cv (0 : Nat) (f i)) (cv (1 : Nat) (f i)) (cv (2 : Nat) (f i)) == (0 : Int)] id = true → (↑i : Int) < (↑N : Int), List.all [leftF (blowC g) M (cv (0 : Nat) (f i)) (cv (1 : Nat) (f i)) (cv (2 : Nat) (f i)) == (0 : Int)] id = true → (3 : Nat) = (3 : Nat)]) (s' := ⟨[(0, 0, Cont.cell (AV.rs 3 N false (bodyC f))), (0, 1, Cont.cell (AV.rs 4 M false (blowC g))), (0, 4, Cont.cell (AV.bool false)), (0, 5, Cont.cell (AV.vs 1)), (0, 6, Cont.cell (AV.vs 2)), (0, 7, Cont.cell (AV.vs 3)), (0, 9, Cont.cell (AV.int IntKind.i64 (↑(List.length (deadL (bodyC f) (blowC g) M i)) : Int))), (0, 10, Cont.cell (AV.int IntKind.i64 (↑i : Int))), (0, 105, Cont.cell (AV.bool (bif leftF (blowC g) M (cv 0 (f i)) (cv 1 (f i)) (cv 2 (f i)) == 0 then decide (cv 2 (f (Int.toNat (↑i : Int))) > 0) else false))), (1, 0, Cont.vec 3 38 N (bodyC f)), (2, 0, Cont.vec 3 38 N (outC (bodyC f) (blowC g) M)), (3, 0, Cont.vec 1 3 (List.length (deadL (bodyC f) (blowC g) M N)) (lst (deadL (bodyC f) (blowC g) M N)))], 396, 127⟩) (by kernel_rfl) (by kernel_rfl) ?_ ?_
        · (simp only [All]; (repeat' apply And.intro) <;> first | trivial | omega | (intro _; first | trivial | omega) | (intro _ _; rfl) | (unfold maxLen; omega))
        refine evC_if (q := bif leftF (blowC g) M (cv 0 (f i)) (cv 1 (f i)) (cv 2 (f i)) == 0 then decide (cv 2 (f (Int.toNat (↑i : Int))) > 0) else false) (by kernel_rfl) (fun hc => ?_) (fun hc => ?_)
        · have hd : lf (blowC g) M (bodyC f i) = 0 ∧ 0 < cv 2 (bodyC f i) := by
            rw [hlf]
            show _ ∧ 0 < cv 2 (f i)
            simpa using hc
          clear hc
          have hat := deadL_at (n := N) (by omega) hd
          refine evC_seq ?_
          refine evC_go (dec := []) (ks := [(0, 0), (0, 1), (0, 4), (0, 5), (0, 6), (0, 7), (0, 9), (0, 10), (0, 117), (1, 0), (2, 0), (3, 0)]) (ps := [List.all [!decide ((↑(List.length (deadL (bodyC f) (blowC g) M i)) : Int) ≥ (↑(List.length (deadL (bodyC f) (blowC g) M N)) : Int))] id = true → (0 : Int) ≤ (↑(List.length (deadL (bodyC f) (blowC g) M i)) : Int), List.all [!decide ((↑(List.length (deadL (bodyC f) (blowC g) M i)) : Int) ≥ (↑(List.length (deadL (bodyC f) (blowC g) M N)) : Int))] id = true → (↑(List.length (deadL (bodyC f) (blowC g) M i)) : Int) < (↑(List.length (deadL (bodyC f) (blowC g) M N)) : Int), List.all [!decide ((↑(List.length (deadL (bodyC f) (blowC g) M i)) : Int) ≥ (↑(List.length (deadL (bodyC f) (blowC g) M N)) : Int))] id = true → (1 : Nat) = (1 : Nat), List.all [!decide ((↑(List.length (deadL (bodyC f) (blowC g) M i)) : Int) ≥ (↑(List.length (deadL (bodyC f) (blowC g) M N)) : Int))] id = true → (0 : Int) ≤ (↑(List.length (deadL (bodyC f) (blowC g) M i)) : Int), List.all [!decide ((↑(List.length (deadL (bodyC f) (blowC g) M i)) : Int) ≥ (↑(List.length (deadL (bodyC f) (blowC g) M N)) : Int))] id = true → (↑(List.length (deadL (bodyC f) (blowC g) M i)) : Int) < (↑(List.length (deadL (bodyC f) (blowC g) M N)) : Int), List.all [!decide ((↑(List.length (deadL (bodyC f) (blowC g) M i)) : Int) ≥ (↑(List.length (deadL (bodyC f) (blowC g) M N)) : Int))] id = true → (1 : Nat) = (1 : Nat)]) (s' := ⟨[(0, 0, Cont.cell (AV.rs 3 N false (bodyC f))), (0, 1, Cont.cell (AV.rs 4 M false (blowC g))), (0, 4, Cont.cell (AV.bool false)), (0, 5, Cont.cell (AV.vs 1)), (0, 6, Cont.cell (AV.vs 2)), (0, 7, Cont.cell (AV.vs 3)), (0, 9, Cont.cell (AV.int IntKind.i64 (↑(List.length (deadL (bodyC f) (blowC g) M i)) : Int))), (0, 10, Cont.cell (AV.int IntKind.i64 (↑i : Int))), (0, 117, Cont.cell (AV.bool (bif decide ((↑(List.length (deadL (bodyC f) (blowC g) M i)) : Int) ≥ (↑(List.length (deadL (bodyC f) (blowC g) M N)) : Int)) then true else List.getD (deadL (bodyC f) (blowC g) M N) (Int.toNat (↑(List.length (deadL (bodyC f) (blowC g) M i)) : Int)) 0 != (↑i : Int)))), (1, 0, Cont.vec 3 38 N (bodyC f)), (2, 0, Cont.vec 3 38 N (outC (bodyC f) (blowC g) M)), (3, 0, Cont.vec 1 3 (List.length (deadL (bodyC f) (blowC g) M N)) (lst (deadL (bodyC f) (blowC g) M N)))], 492, 127⟩) (by kernel_rfl) (by kernel_rfl) ?_ ?_
          · (simp only [All]; (repeat' apply And.intro) <;> first | trivial | omega | (intro _; first | trivial | omega) | (intro _ _; rfl) | (unfold maxLen; omega))
          refine evC_if (q := bif decide ((↑(List.length (deadL (bodyC f) (blowC g) M i)) : Int) ≥ (↑(List.length (deadL (bodyC f) (blowC g) M N)) : Int)) then true else List.getD (deadL (bodyC f) (blowC g) M N) (Int.toNat (↑(List.length (deadL (bodyC f) (blowC g) M i)) : Int)) 0 != (↑i : Int)) (by kernel_rfl) (fun hc => ?_) (fun hc => ?_)
          · exfalso
            simp only [Int.toNat_natCast, lst, iv] at hc
            rw [hat.2] at hc
            have : decide (((deadL (bodyC f) (blowC g) M i).length : Int) ≥ ((deadL (bodyC f) (blowC g) M N).length : Int)) = false := decide_eq_false (by omega)
            simp [this] at hc
            try omega
          clear hc
          refine evC_skip ?_
          refine then_normal ?_
          refine evC_goL0 (dec := []) (ks := [(0, 0), (0, 1), (0, 4), (0, 5), (0, 6), (0, 7), (0, 9), (0, 10), (1, 0), (2, 0), (3, 0)]) (s' := ⟨[(0, 0, Cont.cell (AV.rs 3 N false (bodyC f))), (0, 1, Cont.cell (AV.rs 4 M false (blowC g))), (0, 4, Cont.cell (AV.bool false)), (0, 5, Cont.cell (AV.vs 1)), (0, 6, Cont.cell (AV.vs 2)), (0, 7, Cont.cell (AV.vs 3)), (0, 9, Cont.cell (AV.int IntKind.i64 (IntKind.i64.wrap ((↑(List.length (deadL (bodyC f) (blowC g) M i)) : Int) + 1)))), (0, 10, Cont.cell (AV.int IntKind.i64 (↑i : Int))), (1, 0, Cont.vec 3 38 N (bodyC f)), (2, 0, Cont.vec 3 38 N (outC (bodyC f) (blowC g) M)), (3, 0, Cont.vec 1 3 (List.length (deadL (bodyC f) (blowC g) M N)) (lst (deadL (bodyC f) (blowC g) M N)))], 516, 127⟩) (by kernel_rfl) (by kernel_rfl) ?_
          refine block_normal ?_
          refine then_normal ?_
          refine evC_goL0 (dec := []) (ks := [(0, 0), (0, 1), (0, 4), (0, 5), (0, 6), (0, 7), (0, 9), (0, 10), (1, 0), (2, 0), (3, 0)]) (s' := ⟨[(0, 0, Cont.cell (AV.rs 3 N false (bodyC f))), (0, 1, Cont.cell (AV.rs 4 M false (blowC g))), (0, 4, Cont.cell (AV.bool false)), (0, 5, Cont.cell (AV.vs 1)), (0, 6, Cont.cell (AV.vs 2)), (0, 7, Cont.cell (AV.vs 3)), (0, 9, Cont.cell (AV.int IntKind.i64 (IntKind.i64.wrap ((↑(List.length (deadL (bodyC f) (blowC g) M i)) : Int) + 1)))), (0, 10, Cont.cell (AV.int IntKind.i64 (IntKind.i64.wrap ((↑i : Int) + 1)))), (1, 0, Cont.vec 3 38 N (bodyC f)), (2, 0, Cont.vec 3 38 N (outC (bodyC f) (blowC g) M)), (3, 0, Cont.vec 1 3 (List.length (deadL (bodyC f) (blowC g) M N)) (lst (deadL (bodyC f) (blowC g) M N)))], 540, 127⟩) (by kernel_rfl) (by kernel_rfl) ?_
          rw [wrap_add_one hat.1 (by omega), wrap_add_one (by omega : i < N) (by omega)]
          refine round_normal (⟨i + 1, by omega⟩) (wk_go [1, 2, 3] rfl (by decide) rfl rfl ⟨⟨_, rfl, rfl⟩, ⟨_, rfl, rfl⟩, ⟨_, rfl, rfl⟩, ⟨_, rfl, rfl⟩, ⟨_, rfl, rfl⟩, ⟨_, rfl, rfl⟩, ⟨_, rfl, ?_⟩, ⟨_, rfl, rfl⟩, ⟨_, rfl, ⟨rfl, rfl, rfl, fun _ _ => rfl⟩⟩, ⟨_, rfl, ⟨rfl, rfl, rfl, fun _ _ => rfl⟩⟩, ⟨_, rfl, ⟨rfl, rfl, rfl, fun _ _ => rfl⟩⟩, trivial⟩) ?_
          · show AV.int .i64 _ = AV.int .i64 _
            rw [deadL_yes hd]; simp
          · show N - (i + 1) < N - i; omega
        · have hd : ¬ (lf (blowC g) M (bodyC f i) = 0 ∧ 0 < cv 2 (bodyC f i)) := by
            rw [hlf]
            show ¬ (_ ∧ 0 < cv 2 (f i))
            intro h
            simp [h.1, h.2] at hc
          clear hc
          refine evC_skip ?_
          refine block_normal ?_
          refine then_normal ?_
          refine evC_goL0 (dec := []) (ks := [(0, 0), (0, 1), (0, 4), (0, 5), (0, 6), (0, 7), (0, 9), (0, 10), (1, 0), (2, 0), (3, 0)]) (s' := ⟨[(0, 0, Cont.cell (AV.rs 3 N false (bodyC f))), (0, 1, Cont.cell (AV.rs 4 M false (blowC g))), (0, 4, Cont.cell (AV.bool false)), (0, 5, Cont.cell (AV.vs 1)), (0, 6, Cont.cell (AV.vs 2)), (0, 7, Cont.cell (AV.vs 3)), (0, 9, Cont.cell (AV.int IntKind.i64 (↑(List.length (deadL (bodyC f) (blowC g) M i)) : Int))), (0, 10, Cont.cell (AV.int IntKind.i64 (IntKind.i64.wrap ((↑i : Int) + 1)))), (1, 0, Cont.vec 3 38 N (bodyC f)), (2, 0, Cont.vec 3 38 N (outC (bodyC f) (blowC g) M)), (3, 0, Cont.vec 1 3 (List.length (deadL (bodyC f) (blowC g) M N)) (lst (deadL (bodyC f) (blowC g) M N)))], 420, 127⟩) (by kernel_rfl) (by kernel_rfl) ?_
          rw [wrap_add_one (by omega : i < N) (by omega)]
          refine round_normal (⟨i + 1, by omega⟩) (wk_go [1, 2, 3] rfl (by decide) rfl rfl ⟨⟨_, rfl, rfl⟩, ⟨_, rfl, rfl⟩, ⟨_, rfl, rfl⟩, ⟨_, rfl, rfl⟩, ⟨_, rfl, rfl⟩, ⟨_, rfl, rfl⟩, ⟨_, rfl, ?_⟩, ⟨_, rfl, rfl⟩, ⟨_, rfl, ⟨rfl, rfl, rfl, fun _ _ => rfl⟩⟩, ⟨_, rfl, ⟨rfl, rfl, rfl, fun _ _ => rfl⟩⟩, ⟨_, rfl, ⟨rfl, rfl, rfl, fun _ _ => rfl⟩⟩, trivial⟩) ?_
          · show AV.int .i64 _ = AV.int .i64 _
            rw [deadL_no hd]
          · show N - (i + 1) < N - i; omega
      · have hlt : ¬ (i : Int) < (N : Int) := of_decide_eq_false hc
        have : i = N := by omega
        subst this
        refine evC_exit ?_
        refine then_exit ?_
        refine round_exit ?_
        refine block_exit ?_
        refine then_normal ?_
        refine evC_go0 (dec := []) (ks := [(0, 4)]) (s' := ⟨[(0, 4, Cont.cell (AV.bool (bif (↑(List.length (deadL (bodyC f) (blowC g) M i)) : Int) == (↑(List.length (deadL (bodyC f) (blowC g) M i)) : Int) then true else false)))], 100, 127⟩) (by kernel_rfl) (by kernel_rfl) ?_
        refine evC_ret ?_
        refine post_ret ?_
        refine ends_flat (vs := [AV.bool (bif (↑(List.length (deadL (bodyC f) (blowC g) M i)) : Int) == (↑(List.length (deadL (bodyC f) (blowC g) M i)) : Int) then true else false)]) (Nat.zero_lt_succ _) (by kernel_rfl) (flat_of _ (by kernel_rfl)) rfl ?_
        simp [oneAV]
  · cases e
end Go.Eng.S18
