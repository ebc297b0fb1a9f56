/- Seat 18: the law BlastOrders, walked. -/
import Derived.Test.YtgkkldhgopdphaaEngX
import Derived.Test.YtgkkldhgopdphaaS18G
set_option linter.unusedSimpArgs false
set_option linter.unusedVariables false
namespace Go.Eng.S18
open Go.Proofs Go.IntWalk
set_option maxRecDepth 10000

def revG (g : Nat → AV) (m : Nat) : Nat → AV := fun j => blowC g (m - 1 - j)
theorem hsum_rev (g : Nat → AV) (m : Nat) (x y : Int) : ∀ k, k ≤ m → hsum (revG g m) x y k = hsum (blowC g) x y m - hsum (blowC g) x y (m - k)
  | 0, _ => by simp [hsum]
  | k + 1, h => by
    have ih := hsum_rev g m x y k (by omega)
    obtain ⟨q, hq⟩ : ∃ q, m - k = q + 1 := ⟨m - k - 1, by omega⟩
    have e1 : m - (k + 1) = q := by omega
    have e2 : m - 1 - k = q := by omega
    have e3 : hsum (blowC g) x y (q + 1) = hsum (blowC g) x y q + hu (blowC g q) x y := rfl
    have e4 : hsum (revG g m) x y (k + 1) = hsum (revG g m) x y k + hu (revG g m k) x y := rfl
    have e5 : revG g m k = blowC g q := by show blowC g (m - 1 - k) = _; rw [e2]
    rw [e4, ih, hq, e1, e3, e5]; omega
theorem lf_rev (g : Nat → AV) (m : Nat) (a : AV) : lf (revG g m) m a = lf (blowC g) m a := by
  have := hsum_rev g m (cv 0 a) (cv 1 a) m (Nat.le_refl _)
  have e : hsum (revG g m) (cv 0 a) (cv 1 a) m = hsum (blowC g) (cv 0 a) (cv 1 a) m := by rw [this]; simp [hsum]
  show leftF _ _ _ _ _ = leftF _ _ _ _ _
  by_cases c : cv 2 a ≤ hsum (blowC g) (cv 0 a) (cv 1 a) m
  · rw [leftF_le c, leftF_le (by rw [e]; exact c)]
  · rw [leftF_gt c, leftF_gt (by rw [e]; exact c), e]
theorem deadL_congr {f g g' : Nat → AV} {m m' : Nat} (h : ∀ a, lf g m a = lf g' m' a) : ∀ n, deadL f g m n = deadL f g' m' n
  | 0 => rfl
  | n + 1 => by
    by_cases hd : lf g m (f n) = 0 ∧ 0 < cv 2 (f n)
    · rw [deadL_yes hd, deadL_yes (by rw [← h]; exact hd), deadL_congr h n]
    · rw [deadL_no hd, deadL_no (by rw [← h]; exact hd), deadL_congr h n]
theorem okAll_rev (n : Nat) (f : Nat → AV) (m : Nat) (g : Nat → AV) : okAll n f m (revG g m) = okAll n f m (blowC g) := by
  have : (List.range m).all (fun i => mB (revG g m i)) = (List.range m).all (fun i => mB (blowC g i)) := by
    rw [Bool.eq_iff_iff]
    constructor
    · intro h
      refine all_true fun i hi => ?_
      have := all_get h (i := m - 1 - i) (by omega)
      simpa only [revG, show m - 1 - (m - 1 - i) = i by omega] using this
    · intro h
      refine all_true fun i hi => ?_
      exact all_get h (i := m - 1 - i) (by omega)
  unfold okAll
  rw [this]
/-- The bodies behind the first blows. -/
def zC (f g : Nat → AV) (k : Nat) : Nat → AV := st3 (fun i => cv 0 (f i)) (fun i => cv 1 (f i)) (fun i => hitN g (cv 0 (f i)) (cv 1 (f i)) (cv 2 (f i)) k)
theorem zC_zero (f g : Nat → AV) : zC f g 0 = bodyC f := rfl

def sBlastOrders : Spec := fun args _ _ => match args with
  | [.rs 3 n false f, .rs 4 m false g] => some ⟨[(∀ i, i < n → f i = c3 f i) ∧ n ≤ maxLen, (∀ i, i < m → g i = c4 g i) ∧ m ≤ maxLen], .bool true, [], []⟩
  | _ => none
theorem blastOrders_ok : SpecOK Try.prog 5 sBlastOrders := by
  refine spec_own (by kernel_rfl) T_ok (sget_cons few_ok (sget_cons strike_ok (sget_cons awake_ok sget_nil))) Try.func5 rfl rfl fun args hr nb out e => ?_
  unfold sBlastOrders at e
  split at e
  · rename_i n f m g
    injection e with e; subst e
    refine ⟨(fun _ h => nomatch h), true, [.rs 3 n false (bodyC f), .rs 4 m false (blowC g)], rfl, fun hs => ?_⟩
    obtain ⟨h1, h3⟩ := hs _ List.mem_cons_self
    obtain ⟨h2, h4⟩ := hs _ (List.mem_cons_of_mem _ List.mem_cons_self)
    refine ⟨.cons _ _ _ _ (.rs _ _ _ _ _ _ fun i hi => ⟨h1 i hi, (bodyC_flat f i).has⟩) (.cons _ _ _ _ (.rs _ _ _ _ _ _ fun i hi => ⟨h2 i hi, (blowC_flat g i).has⟩) .nil), ?_⟩
    clear hs
    refine evC_go0 (dec := []) (ks := [(0, 0), (0, 1), (0, 4)]) (s' := ⟨[(0, 0, Cont.cell (AV.rs 3 n false (bodyC f))), (0, 1, Cont.cell (AV.rs 4 m false (blowC g))), (0, 4, Cont.cell (AV.bool false))], 9, 136⟩) (by kernel_rfl) (by kernel_rfl) ?_
    refine evC_go (dec := []) (ks := [(0, 0), (0, 1), (0, 4)]) (ps := [(∀ (i : Nat), i < n → bodyC f i = bodyC (bodyC f) i) ∧ (∀ (i : Nat), i < m → blowC g i = blowC (blowC g) i) ∧ n ≤ maxLen ∧ m ≤ maxLen]) (s' := ⟨[(0, 0, Cont.cell (AV.rs 3 (fewN n) false (bodyC (bodyC f)))), (0, 1, Cont.cell (AV.rs 4 (fewN m) false (blowC (blowC g)))), (0, 4, Cont.cell (AV.bool false))], 73, 136⟩) (by kernel_rfl) (by kernel_rfl) ?_ ?_
    · exact ⟨fun i hi => rfl, fun i hi => rfl, h3, h4⟩
    have hN := fewN_le n
    have hM := fewN_le m
    generalize fewN n = N at *
    generalize fewN m = M0 at *
    clear h1 h2 h3 h4
    refine evC_wk (s' := ⟨[(0, 0, .cell (.rs 3 N false (bodyC f))), (0, 1, .cell (.rs 4 M0 false (blowC g))), (0, 4, Cont.cell (AV.bool false))], 1, 136⟩) _ (wk_go [] rfl (by decide) rfl rfl ⟨⟨_, rfl, rfl⟩, ⟨_, rfl, rfl⟩, ⟨_, rfl, rfl⟩, trivial⟩) ?_
    obtain ⟨M, hMd⟩ : ∃ M, M = if 30 < M0 then 30 else M0 := ⟨_, rfl⟩
    have hM30 : M ≤ 30 := by rw [hMd]; split <;> omega
    refine evC_cutTo (ι := Unit) (fun _ => ⟨[(0, 0, Cont.cell (AV.rs 3 N false (bodyC f))), (0, 1, .cell (.rs 4 M false (blowC g))), (0, 4, Cont.cell (AV.bool false))], 1, 136⟩) ?_ ?_
    · refine evC_go0 (dec := []) (ks := [(0, 0), (0, 1), (0, 4), (0, 27)]) (s' := ⟨[(0, 0, Cont.cell (AV.rs 3 N false (bodyC f))), (0, 1, Cont.cell (AV.rs 4 M0 false (blowC g))), (0, 4, Cont.cell (AV.bool false)), (0, 27, Cont.cell (AV.bool (decide ((↑M0 : Int) > 30))))], 25, 136⟩) (by kernel_rfl) (by kernel_rfl) ?_
      refine evC_if (q := decide ((↑M0 : Int) > 30)) (by kernel_rfl) (fun hc => ?_) (fun hc => ?_)
      · have h0 : 30 < M0 := by have := of_decide_eq_true hc; omega
        refine evC_goL (dec := []) (ks := [(0, 0), (0, 1), (0, 4)]) (ps := [(0 : Int) ≤ (0 : Int), (0 : Int) ≤ (30 : Int), (30 : Int) ≤ (↑M0 : Int), (30 : Int) = (30 : Int), (4 : Nat) = (4 : Nat), false = true → true = true]) (s' := ⟨[(0, 0, Cont.cell (AV.rs 3 N false (bodyC f))), (0, 1, Cont.cell (AV.rs 4 30 false fun i => blowC g (Int.toNat 0 + i))), (0, 4, Cont.cell (AV.bool false))], 49, 136⟩) (by kernel_rfl) (by kernel_rfl) ?_ ?_
        · (simp only [All]; (repeat' apply And.intro) <;> first | trivial | omega | (intro _; first | trivial | omega) | (intro _ _; rfl) | (unfold maxLen; omega))
        skip
        refine cut_normal (()) (wk_go [] rfl (by decide) rfl rfl ⟨⟨_, rfl, rfl⟩, ⟨_, rfl, ?_⟩, ⟨_, rfl, rfl⟩, trivial⟩)
        show AV.rs 4 _ _ _ = AV.rs 4 _ _ _
        rw [hMd, if_pos h0]
        simp [AV.ren]
        rfl
      · have h0 : ¬ 30 < M0 := by have := of_decide_eq_false hc; omega
        refine evC_skip ?_
        refine cut_normal (()) (wk_go [] rfl (by decide) rfl rfl ⟨⟨_, rfl, rfl⟩, ⟨_, rfl, ?_⟩, ⟨_, rfl, rfl⟩, trivial⟩)
        show AV.rs 4 _ _ _ = AV.rs 4 _ _ _
        rw [hMd, if_neg h0]
        rfl
    intro _
    clear hMd hM
    refine evC_go0 (dec := []) (ks := [(0, 0), (0, 1), (0, 4), (0, 5)]) (s' := ⟨[(0, 0, Cont.cell (AV.rs 3 N false (bodyC f))), (0, 1, Cont.cell (AV.rs 4 M false (blowC g))), (0, 4, Cont.cell (AV.bool false)), (0, 5, Cont.cell AV.nils)], 9, 136⟩) (by kernel_rfl) (by kernel_rfl) ?_
    refine evC_wk _ (.nil 0 5 4 23 (fun _ => .nils) (Nat.le_of_ble_eq_true rfl) rfl) ?_
    refine evC_seq ?_
    refine evC_go0 (dec := []) (ks := [(0, 0), (0, 1), (0, 4), (0, 5), (0, 6), (9, 0)]) (s' := ⟨[(0, 0, Cont.cell (AV.rs 3 N false (bodyC f))), (0, 1, Cont.cell (AV.rs 4 M false (blowC g))), (0, 4, Cont.cell (AV.bool false)), (0, 5, Cont.cell (AV.vs 9)), (0, 6, Cont.cell (AV.int IntKind.i64 (IntKind.i64.wrap ((↑M : Int) - 1)))), (9, 0, Cont.vec 4 23 0 fun x => AV.nils)], 42, 136⟩) (by kernel_rfl) (by kernel_rfl) ?_
    refine evC_block ?_
    refine evC_loop (ι := { k : Nat // k ≤ M }) (fun x => ⟨[(0, 0, Cont.cell (AV.rs 3 N false (bodyC f))), (0, 1, Cont.cell (AV.rs 4 M false (blowC g))), (0, 4, Cont.cell (AV.bool false)), (0, 5, Cont.cell (AV.vs 1)), (0, 6, .cell (.int .i64 ((M : Int) - 1 - (x.1 : Nat)))), (1, 0, .vec 4 23 x.1 (revG g M))], 2, 136⟩) (fun x => M - x.1) ⟨0, Nat.zero_le _⟩ (wk_go [9] rfl (by decide) rfl rfl ⟨⟨_, rfl, rfl⟩, ⟨_, rfl, rfl⟩, ⟨_, rfl, rfl⟩, ⟨_, rfl, rfl⟩, ⟨_, rfl, ?_⟩, ⟨_, rfl, ⟨rfl, rfl, rfl, fun _ hi => absurd hi (Nat.not_lt_zero _)⟩⟩, trivial⟩) ?_
    · show AV.int .i64 _ = AV.int .i64 _
      rw [i64_in _ (by omega)]
      simp
    rintro ⟨k, hk⟩
    refine evC_seq ?_
    refine evC_go0 (dec := []) (ks := [(0, 0), (0, 1), (0, 4), (0, 5), (0, 6), (0, 34), (1, 0)]) (s' := ⟨[(0, 0, Cont.cell (AV.rs 3 N false (bodyC f))), (0, 1, Cont.cell (AV.rs 4 M false (blowC g))), (0, 4, Cont.cell (AV.bool false)), (0, 5, Cont.cell (AV.vs 1)), (0, 6, Cont.cell (AV.int IntKind.i64 ((↑M : Int) - 1 - (↑k : Int)))), (0, 34, Cont.cell (AV.bool (decide ((↑M : Int) - 1 - (↑k : Int) ≥ 0)))), (1, 0, Cont.vec 4 23 k (revG g M))], 18, 136⟩) (by kernel_rfl) (by kernel_rfl) ?_
    refine evC_if (q := decide ((↑M : Int) - 1 - (↑k : Int) ≥ 0)) (by kernel_rfl) (fun hc => ?_) (fun hc => ?_)
    · have hlt : k < M := by have := of_decide_eq_true hc; omega
      clear hc
      refine evC_skip ?_
      refine then_normal ?_
      refine evC_seq ?_
      refine evC_block ?_
      refine evC_goL (dec := []) (ks := [(0, 0), (0, 1), (0, 4), (0, 5), (0, 6), (66, 0)]) (ps := [(0 : Int) ≤ (↑M : Int) - (1 : Int) - (↑k : Int), (↑M : Int) - (1 : Int) - (↑k : Int) < (↑M : Int), (4 : Nat) = (4 : Nat), (k + (1 : Nat)) * (32 : Nat) ≤ (140737488355328 : Nat), k + (1 : Nat) ≤ maxLen, (1 : Nat) = (0 : Nat) ∨ (4 : Nat) = (4 : Nat), (4 : Nat) = (4 : Nat), (23 : Nat) = (23 : Nat)]) (s' := ⟨[(0, 0, Cont.cell (AV.rs 3 N false (bodyC f))), (0, 1, Cont.cell (AV.rs 4 M false (blowC g))), (0, 4, Cont.cell (AV.bool false)), (0, 5, Cont.cell (AV.vs 66)), (0, 6, Cont.cell (AV.int IntKind.i64 ((↑M : Int) - 1 - (↑k : Int)))), (66, 0, Cont.vec 4 23 (k + 1) (catF k (revG g M) (pget [(0, AV.agg [AV.int IntKind.i64 (cv 0 (g (Int.toNat ((↑M : Int) - 1 - (↑k : Int))))), AV.int IntKind.i64 (cv 1 (g (Int.toNat ((↑M : Int) - 1 - (↑k : Int))))), AV.int IntKind.i64 (cv 2 (g (Int.toNat ((↑M : Int) - 1 - (↑k : Int))))), AV.int IntKind.i64 (cv 3 (g (Int.toNat ((↑M : Int) - 1 - (↑k : Int)))))])])))], 82, 136⟩) (by kernel_rfl) (by kernel_rfl) ?_ ?_
      · (simp only [All]; (repeat' apply And.intro) <;> first | trivial | omega | (intro _; first | trivial | omega) | (intro _ _; rfl) | (unfold maxLen; omega))
      refine block_normal ?_
      refine then_normal ?_
      refine evC_goL0 (dec := []) (ks := [(0, 0), (0, 1), (0, 4), (0, 5), (0, 6), (66, 0)]) (s' := ⟨[(0, 0, Cont.cell (AV.rs 3 N false (bodyC f))), (0, 1, Cont.cell (AV.rs 4 M false (blowC g))), (0, 4, Cont.cell (AV.bool false)), (0, 5, Cont.cell (AV.vs 66)), (0, 6, Cont.cell (AV.int IntKind.i64 (IntKind.i64.wrap ((↑M : Int) - 1 - (↑k : Int) - 1)))), (66, 0, Cont.vec 4 23 (k + 1) (catF k (revG g M) (pget [(0, AV.agg [AV.int IntKind.i64 (cv 0 (g (Int.toNat ((↑M : Int) - 1 - (↑k : Int))))), AV.int IntKind.i64 (cv 1 (g (Int.toNat ((↑M : Int) - 1 - (↑k : Int))))), AV.int IntKind.i64 (cv 2 (g (Int.toNat ((↑M : Int) - 1 - (↑k : Int))))), AV.int IntKind.i64 (cv 3 (g (Int.toNat ((↑M : Int) - 1 - (↑k : Int)))))])])))], 106, 136⟩) (by kernel_rfl) (by kernel_rfl) ?_
      refine round_normal (⟨k + 1, by omega⟩) (wk_go [66] rfl (by decide) rfl rfl ⟨⟨_, rfl, rfl⟩, ⟨_, rfl, rfl⟩, ⟨_, rfl, rfl⟩, ⟨_, rfl, rfl⟩, ⟨_, rfl, ?_⟩, ⟨_, rfl, ?_⟩, trivial⟩) ?_
      · show AV.int .i64 _ = AV.int .i64 _
        rw [i64_in _ (by omega)]
        congr 1
        show (M : Int) - 1 - (k : Nat) - 1 = (M : Int) - 1 - ((k + 1 : Nat) : Int)
        omega
      · refine ⟨rfl, rfl, rfl, fun j hj => catF_snoc (n := k) (F := revG g M) ?_ j hj⟩
        show blowC g _ = blowC g _
        congr 1
        omega
      · show M - (k + 1) < M - k; omega
    · have hlt : k = M := by have := of_decide_eq_false hc; omega
      subst hlt
      clear hc
      refine evC_exit ?_
      refine then_exit ?_
      refine round_exit ?_
      refine block_exit ?_
      refine then_normal ?_
      refine evC_go (dec := []) (ks := [(0, 0), (0, 1), (0, 4), (0, 5), (0, 7), (0, 8), (0, 9), (1, 0), (34, 0), (35, 0)]) (ps := [(∀ (i : Nat), i < N → bodyC f i = bodyC (bodyC f) i) ∧ (∀ (i : Nat), i < k → blowC g i = blowC (blowC g) i) ∧ N ≤ maxLen ∧ k ≤ maxLen]) (s' := ⟨[(0, 0, Cont.cell (AV.rs 3 N false (bodyC f))), (0, 1, Cont.cell (AV.rs 4 k false (blowC g))), (0, 4, Cont.cell (AV.bool false)), (0, 5, Cont.cell (AV.vs 1)), (0, 7, Cont.cell (AV.vs 34)), (0, 8, Cont.cell (AV.vs 35)), (0, 9, Cont.cell (AV.int IntKind.i64 (errF (okAll N (bodyC f) k (blowC g))))), (1, 0, Cont.vec 4 23 k (revG g k)), (34, 0, Cont.vec 3 38 (bif okAll N (bodyC f) k (blowC g) then N else 0) (outC (bodyC f) (blowC g) k)), (35, 0, Cont.vec 1 3 (bif okAll N (bodyC f) k (blowC g) then List.length (deadL (bodyC f) (blowC g) k N) else 0) (lst (deadL (bodyC f) (blowC g) k N)))], 98, 136⟩) (by kernel_rfl) (by kernel_rfl) ?_ ?_
      · (simp only [All]; (repeat' apply And.intro) <;> first | trivial | omega | (intro _; first | trivial | omega) | (intro _ _; rfl) | (unfold maxLen; omega))
      refine evC_go (dec := []) (ks := [(0, 0), (0, 1), (0, 4), (0, 7), (0, 8), (0, 9), (0, 10), (0, 11), (0, 12), (34, 0), (35, 0), (114, 0), (115, 0)]) (ps := [(∀ (i : Nat), i < N → bodyC f i = bodyC (bodyC f) i) ∧ (∀ (i : Nat), i < k → revG g k i = blowC (revG g k) i) ∧ N ≤ maxLen ∧ k ≤ maxLen]) (s' := ⟨[(0, 0, Cont.cell (AV.rs 3 N false (bodyC f))), (0, 1, Cont.cell (AV.rs 4 k false (blowC g))), (0, 4, Cont.cell (AV.bool false)), (0, 7, Cont.cell (AV.vs 34)), (0, 8, Cont.cell (AV.vs 35)), (0, 9, Cont.cell (AV.int IntKind.i64 (errF (okAll N (bodyC f) k (blowC g))))), (0, 10, Cont.cell (AV.vs 114)), (0, 11, Cont.cell (AV.vs 115)), (0, 12, Cont.cell (AV.int IntKind.i64 (errF (okAll N (bodyC f) k (revG g k))))), (34, 0, Cont.vec 3 38 (bif okAll N (bodyC f) k (blowC g) then N else 0) (outC (bodyC f) (blowC g) k)), (35, 0, Cont.vec 1 3 (bif okAll N (bodyC f) k (blowC g) then List.length (deadL (bodyC f) (blowC g) k N) else 0) (lst (deadL (bodyC f) (blowC g) k N))), (114, 0, Cont.vec 3 38 (bif okAll N (bodyC f) k (revG g k) then N else 0) (outC (bodyC f) (revG g k) k)), (115, 0, Cont.vec 1 3 (bif okAll N (bodyC f) k (revG g k) then List.length (deadL (bodyC f) (revG g k) k N) else 0) (lst (deadL (bodyC f) (revG g k) k N)))], 178, 136⟩) (by kernel_rfl) (by kernel_rfl) ?_ ?_
      · (simp only [All]; (repeat' apply And.intro) <;> first | trivial | omega | (intro _; first | trivial | omega) | (intro _ _; rfl) | (unfold maxLen; omega))
      rw [okAll_rev, deadL_congr (lf_rev g k)]
      cases hok : okAll N (bodyC f) k (blowC g) with
      | false =>
        simp only [cond_false]
        refine evC_seq ?_
        refine evC_go0 (dec := []) (ks := [(0, 0), (0, 1), (0, 4), (0, 7), (0, 9), (0, 10), (0, 74), (34, 0), (114, 0)]) (s' := ⟨[(0, 0, Cont.cell (AV.rs 3 N false (bodyC f))), (0, 1, Cont.cell (AV.rs 4 k false (blowC g))), (0, 4, Cont.cell (AV.bool false)), (0, 7, Cont.cell (AV.vs 34)), (0, 9, Cont.cell (AV.int IntKind.i64 (errF false))), (0, 10, Cont.cell (AV.vs 114)), (0, 74, Cont.cell (AV.bool false)), (34, 0, Cont.vec 3 38 0 (outC (bodyC f) (blowC g) k)), (114, 0, Cont.vec 3 38 0 (outC (bodyC f) (revG g k) k))], 314, 136⟩) (by kernel_rfl) (by kernel_rfl) ?_
        refine evC_if (q := false) (by kernel_rfl) (fun hc => ?_) (fun hc => ?_)
        · exfalso
          simp at hc
        clear hc
        refine evC_skip ?_
        refine then_normal ?_
        refine evC_seq ?_
        refine evC_go0 (dec := []) (ks := [(0, 0), (0, 1), (0, 4), (0, 7), (0, 10), (0, 76), (34, 0), (114, 0)]) (s' := ⟨[(0, 0, Cont.cell (AV.rs 3 N false (bodyC f))), (0, 1, Cont.cell (AV.rs 4 k false (blowC g))), (0, 4, Cont.cell (AV.bool false)), (0, 7, Cont.cell (AV.vs 34)), (0, 10, Cont.cell (AV.vs 114)), (0, 76, Cont.cell (AV.bool true)), (34, 0, Cont.vec 3 38 0 (outC (bodyC f) (blowC g) k)), (114, 0, Cont.vec 3 38 0 (outC (bodyC f) (revG g k) k))], 330, 136⟩) (by kernel_rfl) (by kernel_rfl) ?_
        refine evC_if (q := true) (by kernel_rfl) (fun hc => ?_) (fun hc => ?_)
        · refine evC_go0 (dec := []) (ks := [(0, 0), (0, 1), (0, 4), (0, 7), (0, 10), (34, 0), (114, 0)]) (s' := ⟨[(0, 0, Cont.cell (AV.rs 3 N false (bodyC f))), (0, 1, Cont.cell (AV.rs 4 k false (blowC g))), (0, 4, Cont.cell (AV.bool true)), (0, 7, Cont.cell (AV.vs 34)), (0, 10, Cont.cell (AV.vs 114)), (34, 0, Cont.vec 3 38 0 (outC (bodyC f) (blowC g) k)), (114, 0, Cont.vec 3 38 0 (outC (bodyC f) (revG g k) k))], 386, 136⟩) (by kernel_rfl) (by kernel_rfl) ?_
          refine evC_ret ?_
          refine then_ret ?_
          refine post_ret ?_
          refine ends_flat (vs := [AV.bool true]) (Nat.zero_lt_succ _) (by kernel_rfl) (flat_of _ (by kernel_rfl)) rfl ?_
          rfl
        · simp [errF] at hc
      | true =>
        simp only [cond_true]
        have hb : ∀ j, j < N → 0 ≤ cv 2 (f j) ∧ cv 2 (f j) ≤ 9999 ∧ span (cv 0 (f j)) (cv 1 (f j)) = true := by
          intro j hj
          simp only [okAll, Bool.and_eq_true] at hok
          have := all_get hok.1.1.1 hj
          simp only [mX, mayX, Bool.and_eq_true, inR_iff] at this
          exact ⟨this.2.1, this.2.2, this.1⟩
        have hg : ∀ j, j < k → mB (blowC g j) = true := by
          intro j hj
          simp only [okAll, Bool.and_eq_true] at hok
          exact all_get hok.1.1.2 hj
        have hN2 : N ≤ 256 := by
          simp only [okAll, Bool.and_eq_true] at hok
          exact of_decide_eq_true hok.1.2
        refine evC_seq ?_
        refine evC_go0 (dec := []) (ks := [(0, 0), (0, 1), (0, 4), (0, 7), (0, 9), (0, 10), (0, 74), (34, 0), (114, 0)]) (s' := ⟨[(0, 0, Cont.cell (AV.rs 3 N false (bodyC f))), (0, 1, Cont.cell (AV.rs 4 k false (blowC g))), (0, 4, Cont.cell (AV.bool false)), (0, 7, Cont.cell (AV.vs 34)), (0, 9, Cont.cell (AV.int IntKind.i64 (errF true))), (0, 10, Cont.cell (AV.vs 114)), (0, 74, Cont.cell (AV.bool (bif bif errF true != errF true then true else (↑N : Int) != (↑N : Int) then true else (↑(List.length (deadL (bodyC f) (blowC g) k N)) : Int) != (↑(List.length (deadL (bodyC f) (blowC g) k N)) : Int)))), (34, 0, Cont.vec 3 38 N (outC (bodyC f) (blowC g) k)), (114, 0, Cont.vec 3 38 N (outC (bodyC f) (revG g k) k))], 314, 136⟩) (by kernel_rfl) (by kernel_rfl) ?_
        refine evC_if (q := bif bif errF true != errF true then true else (↑N : Int) != (↑N : Int) then true else (↑(List.length (deadL (bodyC f) (blowC g) k N)) : Int) != (↑(List.length (deadL (bodyC f) (blowC g) k N)) : Int)) (by kernel_rfl) (fun hc => ?_) (fun hc => ?_)
        · exfalso
          simp at hc
        clear hc
        refine evC_skip ?_
        refine then_normal ?_
        refine evC_seq ?_
        refine evC_go0 (dec := []) (ks := [(0, 0), (0, 1), (0, 4), (0, 7), (0, 10), (0, 76), (34, 0), (114, 0)]) (s' := ⟨[(0, 0, Cont.cell (AV.rs 3 N false (bodyC f))), (0, 1, Cont.cell (AV.rs 4 k false (blowC g))), (0, 4, Cont.cell (AV.bool false)), (0, 7, Cont.cell (AV.vs 34)), (0, 10, Cont.cell (AV.vs 114)), (0, 76, Cont.cell (AV.bool false)), (34, 0, Cont.vec 3 38 N (outC (bodyC f) (blowC g) k)), (114, 0, Cont.vec 3 38 N (outC (bodyC f) (revG g k) k))], 330, 136⟩) (by kernel_rfl) (by kernel_rfl) ?_
        refine evC_if (q := false) (by kernel_rfl) (fun hc => ?_) (fun hc => ?_)
        · exfalso
          simp [errF] at hc
        clear hc
        refine evC_skip ?_
        refine then_normal ?_
        refine evC_go0 (dec := []) (ks := [(0, 1), (0, 4), (0, 7), (0, 10), (0, 13), (34, 0), (114, 0)]) (s' := ⟨[(0, 1, Cont.cell (AV.rs 4 k false (blowC g))), (0, 4, Cont.cell (AV.bool false)), (0, 7, Cont.cell (AV.vs 34)), (0, 10, Cont.cell (AV.vs 114)), (0, 13, Cont.cell (AV.rs 3 N false (bodyC f))), (34, 0, Cont.vec 3 38 N (outC (bodyC f) (blowC g) k)), (114, 0, Cont.vec 3 38 N (outC (bodyC f) (revG g k) k))], 346, 136⟩) (by kernel_rfl) (by kernel_rfl) ?_
        refine evC_seq ?_
        refine evC_go0 (dec := []) (ks := [(0, 1), (0, 4), (0, 7), (0, 10), (0, 13), (0, 14), (34, 0), (114, 0)]) (s' := ⟨[(0, 1, Cont.cell (AV.rs 4 k false (blowC g))), (0, 4, Cont.cell (AV.bool false)), (0, 7, Cont.cell (AV.vs 34)), (0, 10, Cont.cell (AV.vs 114)), (0, 13, Cont.cell (AV.rs 3 N false (bodyC f))), (0, 14, Cont.cell (AV.int IntKind.i64 0)), (34, 0, Cont.vec 3 38 N (outC (bodyC f) (blowC g) k)), (114, 0, Cont.vec 3 38 N (outC (bodyC f) (revG g k) k))], 354, 136⟩) (by kernel_rfl) (by kernel_rfl) ?_
        refine evC_block ?_
        refine evC_loop (ι := { i : Nat // i ≤ k }) (fun x => ⟨[(0, 1, Cont.cell (AV.rs 4 k false (blowC g))), (0, 4, Cont.cell (AV.bool false)), (0, 7, Cont.cell (AV.vs 1)), (0, 10, Cont.cell (AV.vs 2)), (0, 13, .cell (.rs 3 N false (zC f (blowC g) x.1))), (0, 14, .cell (.int .i64 (x.1 : Nat))), (1, 0, Cont.vec 3 38 N (outC (bodyC f) (blowC g) k)), (2, 0, Cont.vec 3 38 N (outC (bodyC f) (revG g k) k))], 3, 136⟩) (fun x => k - x.1) ⟨0, Nat.zero_le _⟩ (wk_go [34, 114] rfl (by decide) rfl rfl ⟨⟨_, rfl, rfl⟩, ⟨_, rfl, rfl⟩, ⟨_, rfl, rfl⟩, ⟨_, rfl, rfl⟩, ⟨_, rfl, rfl⟩, ⟨_, rfl, rfl⟩, ⟨_, rfl, rfl, rfl, rfl, fun _ _ => rfl⟩, ⟨_, rfl, rfl, rfl, rfl, fun _ _ => rfl⟩, trivial⟩) ?_
        rintro ⟨i, hik⟩
        refine evC_seq ?_
        refine evC_go0 (dec := []) (ks := [(0, 1), (0, 4), (0, 7), (0, 10), (0, 13), (0, 14), (0, 87), (1, 0), (2, 0)]) (s' := ⟨[(0, 1, Cont.cell (AV.rs 4 k false (blowC g))), (0, 4, Cont.cell (AV.bool false)), (0, 7, Cont.cell (AV.vs 1)), (0, 10, Cont.cell (AV.vs 2)), (0, 13, Cont.cell (AV.rs 3 N false (zC f (blowC g) i))), (0, 14, Cont.cell (AV.int IntKind.i64 (↑i : Int))), (0, 87, Cont.cell (AV.bool (decide ((↑i : Int) < (↑k : Int))))), (1, 0, Cont.vec 3 38 N (outC (bodyC f) (blowC g) k)), (2, 0, Cont.vec 3 38 N (outC (bodyC f) (revG g k) k))], 35, 136⟩) (by kernel_rfl) (by kernel_rfl) ?_
        refine evC_if (q := decide ((↑i : Int) < (↑k : Int))) (by kernel_rfl) (fun hc => ?_) (fun hc => ?_)
        · have hlt : i < k := by have := of_decide_eq_true hc; omega
          clear hc
          refine evC_skip ?_
          refine then_normal ?_
          refine evC_seq ?_
          refine evC_block ?_
          refine evC_go (dec := []) (ks := [(0, 1), (0, 4), (0, 7), (0, 10), (0, 13), (0, 14), (0, 15), (0, 17), (1, 0), (2, 0), (83, 0)]) (ps := [(0 : Int) ≤ (↑i : Int), (↑i : Int) ≤ IntKind.i64.wrap ((↑i : Int) + (1 : Int)), IntKind.i64.wrap ((↑i : Int) + (1 : Int)) ≤ (↑k : Int), IntKind.i64.wrap ((↑i : Int) + (1 : Int)) = IntKind.i64.wrap ((↑i : Int) + (1 : Int)), (4 : Nat) = (4 : Nat), false = true → true = true, (∀ (i_1 : Nat), i_1 < N → zC f (blowC g) i i_1 = bodyC (zC f (blowC g) i) i_1) ∧ (∀ (i_1 : Nat), i_1 < Int.toNat (IntKind.i64.wrap ((↑i : Int) + (1 : Int))) - Int.toNat (↑i : Int) → blowC g (Int.toNat (↑i : Int) + i_1) = blowC (fun i_2 => blowC g (Int.toNat (↑i : Int) + i_2)) i_1) ∧ N ≤ maxLen ∧ Int.toNat (IntKind.i64.wrap ((↑i : Int) + (1 : Int))) - Int.toNat (↑i : Int) ≤ maxLen]) (s' := ⟨[(0, 1, Cont.cell (AV.rs 4 k false (blowC g))), (0, 4, Cont.cell (AV.bool false)), (0, 7, Cont.cell (AV.vs 1)), (0, 10, Cont.cell (AV.vs 2)), (0, 13, Cont.cell (AV.rs 3 N false (zC f (blowC g) i))), (0, 14, Cont.cell (AV.int IntKind.i64 (↑i : Int))), (0, 15, Cont.cell (AV.vs 83)), (0, 17, Cont.cell (AV.int IntKind.i64 (errF (okAll N (zC f (blowC g) i) (Int.toNat (IntKind.i64.wrap ((↑i : Int) + 1)) - Int.toNat (↑i : Int)) fun i_1 => blowC g (Int.toNat (↑i : Int) + i_1))))), (1, 0, Cont.vec 3 38 N (outC (bodyC f) (blowC g) k)), (2, 0, Cont.vec 3 38 N (outC (bodyC f) (revG g k) k)), (83, 0, Cont.vec 3 38 (bif okAll N (zC f (blowC g) i) (Int.toNat (IntKind.i64.wrap ((↑i : Int) + 1)) - Int.toNat (↑i : Int)) fun i_1 => blowC g (Int.toNat (↑i : Int) + i_1) then N else 0) (outC (zC f (blowC g) i) (fun i_1 => blowC g (Int.toNat (↑i : Int) + i_1)) (Int.toNat (IntKind.i64.wrap ((↑i : Int) + 1)) - Int.toNat (↑i : Int))))], 147, 136⟩) (by kernel_rfl) (by kernel_rfl) ?_ ?_
          · rw [wrap_add_one hlt (by omega)]; (simp only [All]; (repeat' apply And.intro) <;> first | trivial | omega | (intro _; first | trivial | omega) | (intro _ _; rfl) | (unfold maxLen; omega))
          rw [wrap_add_one hlt (by omega)]
          have e0 : Int.toNat ((i + 1 : Nat) : Int) - Int.toNat (i : Int) = 1 := by simp
          have hok1 : okAll N (zC f (blowC g) i) 1 (fun j => blowC g (Int.toNat (i : Int) + j)) = true := by
            have a1 : (List.range N).all (fun j => mX (zC f (blowC g) i j)) = true := all_true fun j hj => by
              have h1 := hb j hj
              have h2 := hitN_bound (blowC g) (cv 0 (f j)) (cv 1 (f j)) (cv 2 (f j)) ⟨h1.1, h1.2.1⟩ i
              show (span (cv 0 (f j)) (cv 1 (f j)) && inR 0 9999 (hitN (blowC g) (cv 0 (f j)) (cv 1 (f j)) (cv 2 (f j)) i)) = true
              rw [h1.2.2, inR_iff.2 h2]; rfl
            have a2 : (List.range 1).all (fun j => mB (blowC g (Int.toNat (i : Int) + j))) = true := all_true fun j hj => by
              have : j = 0 := by omega
              subst this
              simpa using hg i hlt
            simp only [okAll]
            rw [a1, a2]
            simp [hN2]
          rw [e0, hok1]
          simp only [cond_true]
          refine evC_wk (s' := ⟨[(0, 1, Cont.cell (AV.rs 4 k false (blowC g))), (0, 4, Cont.cell (AV.bool false)), (0, 7, Cont.cell (AV.vs 1)), (0, 10, Cont.cell (AV.vs 2)), (0, 13, Cont.cell (AV.rs 3 N false (zC f (blowC g) i))), (0, 14, Cont.cell (AV.int IntKind.i64 (↑i : Int))), (0, 15, Cont.cell (AV.vs 3)), (0, 17, Cont.cell (AV.int IntKind.i64 (errF true))), (1, 0, Cont.vec 3 38 N (outC (bodyC f) (blowC g) k)), (2, 0, Cont.vec 3 38 N (outC (bodyC f) (revG g k) k)), (3, 0, .vec 3 38 N (zC f (blowC g) (i + 1)))], 4, 136⟩) _ (wk_go [1, 2, 83] rfl (by decide) rfl rfl ⟨⟨_, rfl, rfl⟩, ⟨_, rfl, rfl⟩, ⟨_, rfl, rfl⟩, ⟨_, rfl, rfl⟩, ⟨_, rfl, rfl⟩, ⟨_, rfl, rfl⟩, ⟨_, rfl, rfl⟩, ⟨_, rfl, rfl⟩, ⟨_, rfl, rfl, rfl, rfl, fun _ _ => rfl⟩, ⟨_, rfl, rfl, rfl, rfl, fun _ _ => rfl⟩, ⟨_, rfl, ?_⟩, trivial⟩) ?_
          · refine ⟨rfl, rfl, rfl, fun j hj => ?_⟩
            have h1 := hb j hj
            have h2 := hitN_bound (blowC g) (cv 0 (f j)) (cv 1 (f j)) (cv 2 (f j)) ⟨h1.1, h1.2.1⟩ i
            have h3 := hitN_eq (fun q => blowC g (Int.toNat (i : Int) + q)) (cv 0 (f j)) (cv 1 (f j)) (hitN (blowC g) (cv 0 (f j)) (cv 1 (f j)) (cv 2 (f j)) i) h2.1 1
            show AV.agg [.int .i64 (cv 0 (f j)), .int .i64 (cv 1 (f j)), .int .i64 (leftF (fun q => blowC g (Int.toNat (i : Int) + q)) 1 (cv 0 (f j)) (cv 1 (f j)) (hitN (blowC g) (cv 0 (f j)) (cv 1 (f j)) (cv 2 (f j)) i))]
              = AV.agg [.int .i64 (cv 0 (f j)), .int .i64 (cv 1 (f j)), .int .i64 (hitN (blowC g) (cv 0 (f j)) (cv 1 (f j)) (cv 2 (f j)) (i + 1))]
            rw [← h3]
            simp [hitN]
          refine evC_wk (s' := ⟨[(0, 1, Cont.cell (AV.rs 4 k false (blowC g))), (0, 4, Cont.cell (AV.bool false)), (0, 7, Cont.cell (AV.vs 1)), (0, 10, Cont.cell (AV.vs 2)), (0, 13, Cont.cell (AV.rs 3 N false (zC f (blowC g) i))), (0, 14, Cont.cell (AV.int IntKind.i64 (↑i : Int))), (0, 15, Cont.cell (AV.rs 3 N false (zC f (blowC g) (i + 1)))), (0, 17, Cont.cell (AV.int IntKind.i64 (errF true))), (1, 0, Cont.vec 3 38 N (outC (bodyC f) (blowC g) k)), (2, 0, Cont.vec 3 38 N (outC (bodyC f) (revG g k) k))], 3, 136⟩) _ (.trans (.frz 3 3 38 (N) (zC f (blowC g) (i + 1)) (Nat.le_of_ble_eq_true rfl) rfl) (wk_go [1, 2] rfl (by decide) rfl rfl ⟨⟨_, rfl, rfl⟩, ⟨_, rfl, rfl⟩, ⟨_, rfl, rfl⟩, ⟨_, rfl, rfl⟩, ⟨_, rfl, rfl⟩, ⟨_, rfl, rfl⟩, ⟨_, rfl, rfl⟩, ⟨_, rfl, rfl⟩, ⟨_, rfl, rfl, rfl, rfl, fun _ _ => rfl⟩, ⟨_, rfl, rfl, rfl, rfl, fun _ _ => rfl⟩, trivial⟩)) ?_
          refine evC_seq ?_
          refine evC_go0 (dec := []) (ks := [(0, 1), (0, 4), (0, 7), (0, 10), (0, 13), (0, 14), (0, 15), (0, 102), (1, 0), (2, 0)]) (s' := ⟨[(0, 1, Cont.cell (AV.rs 4 k false (blowC g))), (0, 4, Cont.cell (AV.bool false)), (0, 7, Cont.cell (AV.vs 1)), (0, 10, Cont.cell (AV.vs 2)), (0, 13, Cont.cell (AV.rs 3 N false (zC f (blowC g) i))), (0, 14, Cont.cell (AV.int IntKind.i64 (↑i : Int))), (0, 15, Cont.cell (AV.rs 3 N false (zC f (blowC g) (i + 1)))), (0, 102, Cont.cell (AV.bool false)), (1, 0, Cont.vec 3 38 N (outC (bodyC f) (blowC g) k)), (2, 0, Cont.vec 3 38 N (outC (bodyC f) (revG g k) k))], 19, 136⟩) (by kernel_rfl) (by kernel_rfl) ?_
          refine evC_if (q := false) (by kernel_rfl) (fun hc => ?_) (fun hc => ?_)
          · exfalso
            simp [errF] at hc
          clear hc
          refine evC_skip ?_
          refine then_normal ?_
          refine evC_goL0 (dec := []) (ks := [(0, 1), (0, 4), (0, 7), (0, 10), (0, 13), (0, 14), (1, 0), (2, 0)]) (s' := ⟨[(0, 1, Cont.cell (AV.rs 4 k false (blowC g))), (0, 4, Cont.cell (AV.bool false)), (0, 7, Cont.cell (AV.vs 1)), (0, 10, Cont.cell (AV.vs 2)), (0, 13, Cont.cell (AV.rs 3 N false (zC f (blowC g) (i + 1)))), (0, 14, Cont.cell (AV.int IntKind.i64 (↑i : Int))), (1, 0, Cont.vec 3 38 N (outC (bodyC f) (blowC g) k)), (2, 0, Cont.vec 3 38 N (outC (bodyC f) (revG g k) k))], 35, 136⟩) (by kernel_rfl) (by kernel_rfl) ?_
          refine block_normal ?_
          refine then_normal ?_
          refine evC_goL0 (dec := []) (ks := [(0, 1), (0, 4), (0, 7), (0, 10), (0, 13), (0, 14), (1, 0), (2, 0)]) (s' := ⟨[(0, 1, Cont.cell (AV.rs 4 k false (blowC g))), (0, 4, Cont.cell (AV.bool false)), (0, 7, Cont.cell (AV.vs 1)), (0, 10, Cont.cell (AV.vs 2)), (0, 13, Cont.cell (AV.rs 3 N false (zC f (blowC g) (i + 1)))), (0, 14, Cont.cell (AV.int IntKind.i64 (IntKind.i64.wrap ((↑i : Int) + 1)))), (1, 0, Cont.vec 3 38 N (outC (bodyC f) (blowC g) k)), (2, 0, Cont.vec 3 38 N (outC (bodyC f) (revG g k) k))], 59, 136⟩) (by kernel_rfl) (by kernel_rfl) ?_
          rw [wrap_add_one hlt (by omega)]
          refine round_normal (⟨i + 1, by omega⟩) (wk_go [1, 2] rfl (by decide) rfl rfl ⟨⟨_, rfl, rfl⟩, ⟨_, rfl, rfl⟩, ⟨_, rfl, rfl⟩, ⟨_, rfl, rfl⟩, ⟨_, rfl, rfl⟩, ⟨_, rfl, rfl⟩, ⟨_, rfl, ⟨rfl, rfl, rfl, fun _ _ => rfl⟩⟩, ⟨_, rfl, ⟨rfl, rfl, rfl, fun _ _ => rfl⟩⟩, trivial⟩) ?_
          show k - (i + 1) < k - i; omega
        · have hlt : i = k := by have := of_decide_eq_false hc; omega
          subst hlt
          clear hc
          refine evC_exit ?_
          refine then_exit ?_
          refine round_exit ?_
          refine block_exit ?_
          refine then_normal ?_
          refine evC_seq ?_
          refine evC_go0 (dec := []) (ks := [(0, 4), (0, 7), (0, 10), (0, 13), (0, 108), (1, 0), (2, 0)]) (s' := ⟨[(0, 4, Cont.cell (AV.bool false)), (0, 7, Cont.cell (AV.vs 1)), (0, 10, Cont.cell (AV.vs 2)), (0, 13, Cont.cell (AV.rs 3 N false (zC f (blowC g) i))), (0, 108, Cont.cell (AV.bool ((↑N : Int) != (↑N : Int)))), (1, 0, Cont.vec 3 38 N (outC (bodyC f) (blowC g) i)), (2, 0, Cont.vec 3 38 N (outC (bodyC f) (revG g i) i))], 75, 136⟩) (by kernel_rfl) (by kernel_rfl) ?_
          refine evC_if (q := (↑N : Int) != (↑N : Int)) (by kernel_rfl) (fun hc => ?_) (fun hc => ?_)
          · exfalso
            simp at hc
          clear hc
          refine evC_skip ?_
          refine then_normal ?_
          refine evC_seq ?_
          refine evC_go0 (dec := []) (ks := [(0, 4), (0, 7), (0, 10), (0, 13), (0, 18), (1, 0), (2, 0)]) (s' := ⟨[(0, 4, Cont.cell (AV.bool false)), (0, 7, Cont.cell (AV.vs 1)), (0, 10, Cont.cell (AV.vs 2)), (0, 13, Cont.cell (AV.rs 3 N false (zC f (blowC g) i))), (0, 18, Cont.cell (AV.int IntKind.i64 0)), (1, 0, Cont.vec 3 38 N (outC (bodyC f) (blowC g) i)), (2, 0, Cont.vec 3 38 N (outC (bodyC f) (revG g i) i))], 83, 136⟩) (by kernel_rfl) (by kernel_rfl) ?_
          refine evC_block ?_
          refine evC_loop (ι := { j : Nat // j ≤ N }) (fun x => ⟨[(0, 4, Cont.cell (AV.bool false)), (0, 7, Cont.cell (AV.vs 1)), (0, 10, Cont.cell (AV.vs 2)), (0, 13, Cont.cell (AV.rs 3 N false (zC f (blowC g) i))), (0, 18, .cell (.int .i64 (x.1 : Nat))), (1, 0, Cont.vec 3 38 N (outC (bodyC f) (blowC g) i)), (2, 0, Cont.vec 3 38 N (outC (bodyC f) (revG g i) i))], 3, 136⟩) (fun x => N - x.1) ⟨0, Nat.zero_le _⟩ (wk_go [1, 2] rfl (by decide) rfl rfl ⟨⟨_, rfl, rfl⟩, ⟨_, rfl, rfl⟩, ⟨_, rfl, rfl⟩, ⟨_, rfl, rfl⟩, ⟨_, rfl, rfl⟩, ⟨_, rfl, rfl, rfl, rfl, fun _ _ => rfl⟩, ⟨_, rfl, rfl, rfl, rfl, fun _ _ => rfl⟩, trivial⟩) ?_
          rintro ⟨j, hjN⟩
          refine evC_seq ?_
          refine evC_go0 (dec := []) (ks := [(0, 4), (0, 7), (0, 10), (0, 13), (0, 18), (0, 112), (1, 0), (2, 0)]) (s' := ⟨[(0, 4, Cont.cell (AV.bool false)), (0, 7, Cont.cell (AV.vs 1)), (0, 10, Cont.cell (AV.vs 2)), (0, 13, Cont.cell (AV.rs 3 N false (zC f (blowC g) i))), (0, 18, Cont.cell (AV.int IntKind.i64 (↑j : Int))), (0, 112, Cont.cell (AV.bool (decide ((↑j : Int) < (↑N : Int))))), (1, 0, Cont.vec 3 38 N (outC (bodyC f) (blowC g) i)), (2, 0, Cont.vec 3 38 N (outC (bodyC f) (revG g i) i))], 35, 136⟩) (by kernel_rfl) (by kernel_rfl) ?_
          refine evC_if (q := decide ((↑j : Int) < (↑N : Int))) (by kernel_rfl) (fun hc => ?_) (fun hc => ?_)
          · have hlt : j < N := by have := of_decide_eq_true hc; omega
            clear hc
            refine evC_skip ?_
            refine then_normal ?_
            refine evC_seq ?_
            refine evC_block ?_
            refine evC_go (dec := []) (ks := [(0, 4), (0, 7), (0, 10), (0, 13), (0, 18), (0, 134), (1, 0), (2, 0)]) (ps := [(0 : Int) ≤ (↑j : Int), (↑j : Int) < (↑N : Int), (3 : Nat) = (3 : Nat), (0 : Int) ≤ (↑j : Int), (↑j : Int) < (↑N : Int), (3 : Nat) = (3 : Nat), (0 : Int) ≤ (↑j : Int), (↑j : Int) < (↑N : Int), (3 : Nat) = (3 : Nat), (0 : Int) ≤ (↑j : Int), (↑j : Int) < (↑N : Int), (3 : Nat) = (3 : Nat), List.all [!!(cv (0 : Nat) (bodyC f (Int.toNat (↑j : Int))) == cv (0 : Nat) (bodyC f (Int.toNat (↑j : Int))) && (cv (1 : Nat) (bodyC f (Int.toNat (↑j : Int))) == cv (1 : Nat) (bodyC f (Int.toNat (↑j : Int))) && (lf (blowC g) i (bodyC f (Int.toNat (↑j : Int))) == lf (revG g i) i (bodyC f (Int.toNat (↑j : Int))) && true)))] id = true → (0 : Int) ≤ (↑j : Int), List.all [!!(cv (0 : Nat) (bodyC f (Int.toNat (↑j : Int))) == cv (0 : Nat) (bodyC f (Int.toNat (↑j : Int))) && (cv (1 : Nat) (bodyC f (Int.toNat (↑j : Int))) == cv (1 : Nat) (bodyC f (Int.toNat (↑j : Int))) && (lf (blowC g) i (bodyC f (Int.toNat (↑j : Int))) == lf (revG g i) i (bodyC f (Int.toNat (↑j : Int))) && true)))] id = true → (↑j : Int) < (↑N : Int), List.all [!!(cv (0 : Nat) (bodyC f (Int.toNat (↑j : Int))) == cv (0 : Nat) (bodyC f (Int.toNat (↑j : Int))) && (cv (1 : Nat) (bodyC f (Int.toNat (↑j : Int))) == cv (1 : Nat) (bodyC f (Int.toNat (↑j : Int))) && (lf (blowC g) i (bodyC f (Int.toNat (↑j : Int))) == lf (revG g i) i (bodyC f (Int.toNat (↑j : Int))) && true)))] id = true → (3 : Nat) = (3 : Nat), List.all [!!(cv (0 : Nat) (bodyC f (Int.toNat (↑j : Int))) == cv (0 : Nat) (bodyC f (Int.toNat (↑j : Int))) && (cv (1 : Nat) (bodyC f (Int.toNat (↑j : Int))) == cv (1 : Nat) (bodyC f (Int.toNat (↑j : Int))) && (lf (blowC g) i (bodyC f (Int.toNat (↑j : Int))) == lf (revG g i) i (bodyC f (Int.toNat (↑j : Int))) && true)))] id = true → (0 : Int) ≤ (↑j : Int), List.all [!!(cv (0 : Nat) (bodyC f (Int.toNat (↑j : Int))) == cv (0 : Nat) (bodyC f (Int.toNat (↑j : Int))) && (cv (1 : Nat) (bodyC f (Int.toNat (↑j : Int))) == cv (1 : Nat) (bodyC f (Int.toNat (↑j : Int))) && (lf (blowC g) i (bodyC f (Int.toNat (↑j : Int))) == lf (revG g i) i (bodyC f (Int.toNat (↑j : Int))) && true)))] id = true → (↑j : Int) < (↑N : Int), List.all [!!(cv (0 : Nat) (bodyC f (Int.toNat (↑j : Int))) == cv (0 : Nat) (bodyC f (Int.toNat (↑j : Int))) && (cv (1 : Nat) (bodyC f (Int.toNat (↑j : Int))) == cv (1 : Nat) (bodyC f (Int.toNat (↑j : Int))) && (lf (blowC g) i (bodyC f (Int.toNat (↑j : Int))) == lf (revG g i) i (bodyC f (Int.toNat (↑j : Int))) && true)))] id = true → (3 : Nat) = (3 : Nat), List.all [!!(cv (0 : Nat) (bodyC f (Int.toNat (↑j : Int))) == cv (0 : Nat) (bodyC f (Int.toNat (↑j : Int))) && (cv (1 : Nat) (bodyC f (Int.toNat (↑j : Int))) == cv (1 : Nat) (bodyC f (Int.toNat (↑j : Int))) && (lf (blowC g) i (bodyC f (Int.toNat (↑j : Int))) == lf (revG g i) i (bodyC f (Int.toNat (↑j : Int))) && true)))] id = true → (0 : Int) ≤ (↑j : Int), List.all [!!(cv (0 : Nat) (bodyC f (Int.toNat (↑j : Int))) == cv (0 : Nat) (bodyC f (Int.toNat (↑j : Int))) && (cv (1 : Nat) (bodyC f (Int.toNat (↑j : Int))) == cv (1 : Nat) (bodyC f (Int.toNat (↑j : Int))) && (lf (blowC g) i (bodyC f (Int.toNat (↑j : Int))) == lf (revG g i) i (bodyC f (Int.toNat (↑j : Int))) && true)))] id = true → (↑j : Int) < (↑N : Int), List.all [!!(cv (0 : Nat) (bodyC f (Int.toNat (↑j : Int))) == cv (0 : Nat) (bodyC f (Int.toNat (↑j : Int))) && (cv (1 : Nat) (bodyC f (Int.toNat (↑j : Int))) == cv (1 : Nat) (bodyC f (Int.toNat (↑j : Int))) && (lf (blowC g) i (bodyC f (Int.toNat (↑j : Int))) == lf (revG g i) i (bodyC f (Int.toNat (↑j : Int))) && true)))] id = true → (3 : Nat) = (3 : Nat)]) (s' := ⟨[(0, 4, Cont.cell (AV.bool false)), (0, 7, Cont.cell (AV.vs 1)), (0, 10, Cont.cell (AV.vs 2)), (0, 13, Cont.cell (AV.rs 3 N false (zC f (blowC g) i))), (0, 18, Cont.cell (AV.int IntKind.i64 (↑j : Int))), (0, 134, Cont.cell (AV.bool (bif !(cv 0 (bodyC f (Int.toNat (↑j : Int))) == cv 0 (bodyC f (Int.toNat (↑j : Int))) && (cv 1 (bodyC f (Int.toNat (↑j : Int))) == cv 1 (bodyC f (Int.toNat (↑j : Int))) && (lf (blowC g) i (bodyC f (Int.toNat (↑j : Int))) == lf (revG g i) i (bodyC f (Int.toNat (↑j : Int))) && true))) then true else !(cv 0 (bodyC f (Int.toNat (↑j : Int))) == cv 0 (f (Int.toNat (↑j : Int))) && (cv 1 (bodyC f (Int.toNat (↑j : Int))) == cv 1 (f (Int.toNat (↑j : Int))) && (lf (blowC g) i (bodyC f (Int.toNat (↑j : Int))) == hitN (blowC g) (cv 0 (f (Int.toNat (↑j : Int)))) (cv 1 (f (Int.toNat (↑j : Int)))) (cv 2 (f (Int.toNat (↑j : Int)))) i && true)))))), (1, 0, Cont.vec 3 38 N (outC (bodyC f) (blowC g) i)), (2, 0, Cont.vec 3 38 N (outC (bodyC f) (revG g i) i))], 195, 136⟩) (by kernel_rfl) (by kernel_rfl) ?_ ?_
            · (simp only [All]; (repeat' apply And.intro) <;> first | trivial | omega | (intro _; first | trivial | omega) | (intro _ _; rfl) | (unfold maxLen; omega))
            simp only [Int.toNat_natCast]
            have h1 := hb j hlt
            have h3 := hitN_eq (blowC g) (cv 0 (f j)) (cv 1 (f j)) (cv 2 (f j)) h1.1 i
            refine evC_if (q := bif !(cv 0 (bodyC f j) == cv 0 (bodyC f j) && (cv 1 (bodyC f j) == cv 1 (bodyC f j) && (lf (blowC g) i (bodyC f j) == lf (revG g i) i (bodyC f j) && true))) then true else !(cv 0 (bodyC f j) == cv 0 (f j) && (cv 1 (bodyC f j) == cv 1 (f j) && (lf (blowC g) i (bodyC f j) == hitN (blowC g) (cv 0 (f j)) (cv 1 (f j)) (cv 2 (f j)) i && true)))) (by kernel_rfl) (fun hc => ?_) (fun hc => ?_)
            · exfalso
              simp only [Int.toNat_natCast, lf_rev] at hc
              change (bif !(cv 0 (f j) == cv 0 (f j) && (cv 1 (f j) == cv 1 (f j) && (lf (blowC g) i (bodyC f j) == lf (blowC g) i (bodyC f j) && true))) then true
                else !(cv 0 (f j) == cv 0 (f j) && (cv 1 (f j) == cv 1 (f j) && (leftF (blowC g) i (cv 0 (f j)) (cv 1 (f j)) (cv 2 (f j)) == hitN (blowC g) (cv 0 (f j)) (cv 1 (f j)) (cv 2 (f j)) i && true)))) = true at hc
              rw [h3] at hc
              simp at hc
            clear hc
            refine evC_skip ?_
            refine block_normal ?_
            refine then_normal ?_
            refine evC_goL0 (dec := []) (ks := [(0, 4), (0, 7), (0, 10), (0, 13), (0, 18), (1, 0), (2, 0)]) (s' := ⟨[(0, 4, Cont.cell (AV.bool false)), (0, 7, Cont.cell (AV.vs 1)), (0, 10, Cont.cell (AV.vs 2)), (0, 13, Cont.cell (AV.rs 3 N false (zC f (blowC g) i))), (0, 18, Cont.cell (AV.int IntKind.i64 (IntKind.i64.wrap ((↑j : Int) + 1)))), (1, 0, Cont.vec 3 38 N (outC (bodyC f) (blowC g) i)), (2, 0, Cont.vec 3 38 N (outC (bodyC f) (revG g i) i))], 219, 136⟩) (by kernel_rfl) (by kernel_rfl) ?_
            rw [wrap_add_one hlt (by omega)]
            refine round_normal (⟨j + 1, by omega⟩) (wk_go [1, 2] rfl (by decide) rfl rfl ⟨⟨_, rfl, rfl⟩, ⟨_, rfl, rfl⟩, ⟨_, rfl, rfl⟩, ⟨_, rfl, rfl⟩, ⟨_, rfl, rfl⟩, ⟨_, rfl, ⟨rfl, rfl, rfl, fun _ _ => rfl⟩⟩, ⟨_, rfl, ⟨rfl, rfl, rfl, fun _ _ => rfl⟩⟩, trivial⟩) ?_
            show N - (j + 1) < N - j; omega
          · refine evC_exit ?_
            refine then_exit ?_
            refine round_exit ?_
            refine block_exit ?_
            refine then_normal ?_
            refine evC_go0 (dec := []) (ks := [(0, 4)]) (s' := ⟨[(0, 4, Cont.cell (AV.bool true))], 51, 136⟩) (by kernel_rfl) (by kernel_rfl) ?_
            refine evC_ret ?_
            refine post_ret ?_
            refine ends_flat (vs := [AV.bool true]) (Nat.zero_lt_succ _) (by kernel_rfl) (flat_of _ (by kernel_rfl)) rfl ?_
            rfl
  · cases e
end Go.Eng.S18
