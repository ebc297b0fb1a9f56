/- Seat 18: few, may, what is left, and the closure that hits, walked. -/
import Derived.Test.YtgkkldhgopdphaaEngX
import Derived.Test.YtgkkldhgopdphaaS18A
set_option linter.unusedSimpArgs false
set_option linter.unusedVariables false
namespace Go.Eng.S18
open Go.Proofs Go.IntWalk
set_option maxRecDepth 10000

/-- At most so many. -/
def fewN (n : Nat) : Nat := if 258 < n then 258 else n
theorem fewN_le (n : Nat) : fewN n ≤ n ∧ fewN n ≤ 258 := by unfold fewN; split <;> omega
def bodyC (f : Nat → AV) : Nat → AV := st3 (fun i => cv 0 (f i)) (fun i => cv 1 (f i)) (fun i => cv 2 (f i))
def blowC (f : Nat → AV) : Nat → AV := st4 (fun i => cv 0 (f i)) (fun i => cv 1 (f i)) (fun i => cv 2 (f i)) (fun i => cv 3 (f i))
theorem bodyC_flat (f : Nat → AV) (i : Nat) : Flat (bodyC f i) := st3_flat _ _ _ i
theorem blowC_flat (f : Nat → AV) (i : Nat) : Flat (blowC f i) := st4_flat _ _ _ _ i
theorem bodyC_has {nm rd : Bool} (sz n : Nat) (full : Bool) (f : Nat → AV) (h : rd = true) : Has nm rd (.rs sz n full (bodyC f)) := .rs _ _ _ _ h fun i _ => (bodyC_flat f i).has
theorem blowC_has {nm rd : Bool} (sz n : Nat) (full : Bool) (f : Nat → AV) (h : rd = true) : Has nm rd (.rs sz n full (blowC f)) := .rs _ _ _ _ h fun i _ => (blowC_flat f i).has

def sFew : Spec := fun args _ _ => match args with
  | [.rs 3 n false f, .rs 4 m false g] => some ⟨[(∀ i, i < n → f i = bodyC f i) ∧ (∀ i, i < m → g i = blowC g i) ∧ n ≤ maxLen ∧ m ≤ maxLen], .tup [.rs 3 (fewN n) false (bodyC f), .rs 4 (fewN m) false (blowC g)], [], []⟩
  | _ => none
theorem few_ok : SpecOK Try.prog 10 sFew := by
  refine spec_own (by kernel_rfl) T_ok sget_nil Try.func10 rfl rfl fun args hr nb out e => ?_
  unfold sFew at e
  split at e
  · rename_i n f m g
    injection e with e; subst e
    refine ⟨(fun _ h => nomatch h), true, [.rs 3 n false (bodyC f), .rs 4 m false (blowC g)], rfl, fun hs => ?_⟩
    obtain ⟨h1, h2, h3, h4⟩ := hs _ List.mem_cons_self
    refine ⟨.cons _ _ _ _ (.rs _ _ _ _ _ _ fun i hi => ⟨h1 i hi, (bodyC_flat f i).has⟩) (.cons _ _ _ _ (.rs _ _ _ _ _ _ fun i hi => ⟨h2 i hi, (blowC_flat g i).has⟩) .nil), ?_⟩
    refine evC_go0 (dec := []) (ks := [(0, 0), (0, 1), (0, 4), (0, 5)]) (s' := ⟨[(0, 0, Cont.cell (AV.rs 3 n false (bodyC f))), (0, 1, Cont.cell (AV.rs 4 m false (blowC g))), (0, 4, Cont.cell AV.nils), (0, 5, Cont.cell AV.nils)], 17, 18⟩) (by kernel_rfl) (by kernel_rfl) ?_
    refine evC_cutTo (ι := Unit) (fun _ => ⟨[(0, 0, .cell (.rs 3 (fewN n) false (bodyC f))), (0, 1, Cont.cell (AV.rs 4 m false (blowC g))), (0, 4, Cont.cell AV.nils), (0, 5, Cont.cell AV.nils)], 1, 18⟩) ?_ ?_
    · refine evC_go0 (dec := []) (ks := [(0, 0), (0, 1), (0, 4), (0, 5), (0, 8)]) (s' := ⟨[(0, 0, Cont.cell (AV.rs 3 n false (bodyC f))), (0, 1, Cont.cell (AV.rs 4 m false (blowC g))), (0, 4, Cont.cell AV.nils), (0, 5, Cont.cell AV.nils), (0, 8, Cont.cell (AV.bool (decide ((↑n : Int) > 258))))], 41, 18⟩) (by kernel_rfl) (by kernel_rfl) ?_
      refine evC_if (q := decide ((↑n : Int) > 258)) (by kernel_rfl) (fun hc => ?_) (fun hc => ?_)
      · have hn : 258 < n := by have := of_decide_eq_true hc; omega
        refine evC_goL (dec := []) (ks := [(0, 0), (0, 1), (0, 4), (0, 5)]) (ps := [(0 : Int) ≤ (0 : Int), (0 : Int) ≤ (258 : Int), (258 : Int) ≤ (↑n : Int), (258 : Int) = (258 : Int), (3 : Nat) = (3 : Nat), false = true → true = true]) (s' := ⟨[(0, 0, Cont.cell (AV.rs 3 258 false fun i => bodyC f (Int.toNat 0 + i))), (0, 1, Cont.cell (AV.rs 4 m false (blowC g))), (0, 4, Cont.cell AV.nils), (0, 5, Cont.cell AV.nils)], 65, 18⟩) (by kernel_rfl) (by kernel_rfl) ?_ ?_
        · exact ⟨by omega, by omega, by omega, rfl, rfl, fun h => nomatch h⟩
        skip
        refine cut_normal (()) (wk_go [] rfl (by decide) rfl rfl ⟨⟨_, rfl, ?_⟩, ⟨_, rfl, rfl⟩, ⟨_, rfl, rfl⟩, ⟨_, rfl, rfl⟩, trivial⟩)
        show AV.rs 3 _ _ _ = AV.rs 3 _ _ _
        simp [fewN, hn, AV.ren]
        rfl
      · have hn : ¬ 258 < n := by have := of_decide_eq_false hc; omega
        refine evC_skip ?_
        refine cut_normal (()) (wk_go [] rfl (by decide) rfl rfl ⟨⟨_, rfl, ?_⟩, ⟨_, rfl, rfl⟩, ⟨_, rfl, rfl⟩, ⟨_, rfl, rfl⟩, trivial⟩)
        show AV.rs 3 _ _ _ = AV.rs 3 _ _ _
        simp [fewN, hn, AV.ren]
        rfl
    intro _
    refine evC_cutTo (ι := Unit) (fun _ => ⟨[(0, 0, Cont.cell (AV.rs 3 (fewN n) false (bodyC f))), (0, 1, .cell (.rs 4 (fewN m) false (blowC g))), (0, 4, Cont.cell AV.nils), (0, 5, Cont.cell AV.nils)], 1, 18⟩) ?_ ?_
    · refine evC_go0 (dec := []) (ks := [(0, 0), (0, 1), (0, 4), (0, 5), (0, 13)]) (s' := ⟨[(0, 0, Cont.cell (AV.rs 3 (fewN n) false (bodyC f))), (0, 1, Cont.cell (AV.rs 4 m false (blowC g))), (0, 4, Cont.cell AV.nils), (0, 5, Cont.cell AV.nils), (0, 13, Cont.cell (AV.bool (decide ((↑m : Int) > 258))))], 25, 18⟩) (by kernel_rfl) (by kernel_rfl) ?_
      refine evC_if (q := decide ((↑m : Int) > 258)) (by kernel_rfl) (fun hc => ?_) (fun hc => ?_)
      · have hn : 258 < m := by have := of_decide_eq_true hc; omega
        refine evC_goL (dec := []) (ks := [(0, 0), (0, 1), (0, 4), (0, 5)]) (ps := [(0 : Int) ≤ (0 : Int), (0 : Int) ≤ (258 : Int), (258 : Int) ≤ (↑m : Int), (258 : Int) = (258 : Int), (4 : Nat) = (4 : Nat), false = true → true = true]) (s' := ⟨[(0, 0, Cont.cell (AV.rs 3 (fewN n) false (bodyC f))), (0, 1, Cont.cell (AV.rs 4 258 false fun i => blowC g (Int.toNat 0 + i))), (0, 4, Cont.cell AV.nils), (0, 5, Cont.cell AV.nils)], 49, 18⟩) (by kernel_rfl) (by kernel_rfl) ?_ ?_
        · exact ⟨by omega, by omega, by omega, rfl, rfl, fun h => nomatch h⟩
        skip
        refine cut_normal (()) (wk_go [] rfl (by decide) rfl rfl ⟨⟨_, rfl, rfl⟩, ⟨_, rfl, ?_⟩, ⟨_, rfl, rfl⟩, ⟨_, rfl, rfl⟩, trivial⟩)
        show AV.rs 4 _ _ _ = AV.rs 4 _ _ _
        simp [fewN, hn, AV.ren]
        rfl
      · have hn : ¬ 258 < m := by have := of_decide_eq_false hc; omega
        refine evC_skip ?_
        refine cut_normal (()) (wk_go [] rfl (by decide) rfl rfl ⟨⟨_, rfl, rfl⟩, ⟨_, rfl, ?_⟩, ⟨_, rfl, rfl⟩, ⟨_, rfl, rfl⟩, trivial⟩)
        show AV.rs 4 _ _ _ = AV.rs 4 _ _ _
        simp [fewN, hn, AV.ren]
        rfl
    intro _
    refine evC_go0 (dec := []) (ks := [(0, 4), (0, 5)]) (s' := ⟨[(0, 4, Cont.cell (AV.rs 3 (fewN n) false (bodyC f))), (0, 5, Cont.cell (AV.rs 4 (fewN m) false (blowC g)))], 33, 18⟩) (by kernel_rfl) (by kernel_rfl) ?_
    refine evC_ret ?_
    refine post_ret ?_
    refine ends_go [] (.tup [.rs 3 (fewN n) false (bodyC f), .rs 4 (fewN m) false (blowC g)]) [] rfl List.nodup_nil rfl rfl (.tup _ fun v hv => ?_) rfl trivial trivial (kept_nil _)
    rcases List.mem_cons.1 hv with rfl | hv
    · exact bodyC_has _ _ _ _ rfl
    · rw [List.mem_singleton.1 hv]; exact blowC_has _ _ _ _ rfl
  · cases e

/-- May they all be? -/
def mX (a : AV) : Bool := mayX (cv 0 a) (cv 1 a) (cv 2 a)
def mB (a : AV) : Bool := mayB (cv 0 a) (cv 1 a) (cv 2 a) (cv 3 a)
def okAll (n : Nat) (f : Nat → AV) (m : Nat) (g : Nat → AV) : Bool := (List.range n).all (fun i => mX (f i)) && (List.range m).all (fun i => mB (g i)) && decide (n ≤ 256) && decide (m ≤ 256)
def sMay : Spec := fun args _ _ => match args with
  | [.rs 3 n false f, .rs 4 m false g] => some ⟨[(∀ i, i < n → f i = bodyC f i) ∧ (∀ i, i < m → g i = blowC g i) ∧ n ≤ maxLen ∧ m ≤ maxLen], .bool (okAll n f m g), [], []⟩
  | _ => none
theorem may_ok : SpecOK Try.prog 12 sMay := by
  refine spec_own (by kernel_rfl) T_ok (sget_cons refBody_ok (sget_cons refMay_ok sget_nil)) Try.func12 rfl rfl fun args hr nb out e => ?_
  unfold sMay at e
  split at e
  · rename_i n f m g
    injection e with e; subst e
    refine ⟨(fun _ h => nomatch h), true, [.rs 3 n false (bodyC f), .rs 4 m false (blowC g)], rfl, fun hs => ?_⟩
    obtain ⟨h1, h2, h3, h4⟩ := hs _ List.mem_cons_self
    refine ⟨.cons _ _ _ _ (.rs _ _ _ _ _ _ fun i hi => ⟨h1 i hi, (bodyC_flat f i).has⟩) (.cons _ _ _ _ (.rs _ _ _ _ _ _ fun i hi => ⟨h2 i hi, (blowC_flat g i).has⟩) .nil), ?_⟩
    clear hs
    unfold maxLen at h3 h4
    refine evC_go0 (dec := []) (ks := [(0, 0), (0, 1), (0, 4)]) (s' := ⟨[(0, 0, Cont.cell (AV.rs 3 n false (bodyC f))), (0, 1, Cont.cell (AV.rs 4 m false (blowC g))), (0, 4, Cont.cell (AV.bool false))], 9, 39⟩) (by kernel_rfl) (by kernel_rfl) ?_
    refine evC_seq ?_
    refine evC_go0 (dec := []) (ks := [(0, 0), (0, 1), (0, 4), (0, 5)]) (s' := ⟨[(0, 0, Cont.cell (AV.rs 3 n false (bodyC f))), (0, 1, Cont.cell (AV.rs 4 m false (blowC g))), (0, 4, Cont.cell (AV.bool false)), (0, 5, Cont.cell (AV.int IntKind.i64 0))], 17, 39⟩) (by kernel_rfl) (by kernel_rfl) ?_
    refine evC_block ?_
    refine evC_loop (ι := { i : Nat // i ≤ n ∧ ∀ j, j < i → mX (f j) = true }) (fun x => ⟨[(0, 0, Cont.cell (AV.rs 3 n false (bodyC f))), (0, 1, Cont.cell (AV.rs 4 m false (blowC g))), (0, 4, Cont.cell (AV.bool false)), (0, 5, .cell (.int .i64 (x.1 : Nat)))], 1, 39⟩) (fun x => n - x.1) ⟨0, Nat.zero_le _, fun j hj => absurd hj (Nat.not_lt_zero j)⟩ (wk_go [] rfl (by decide) rfl rfl ⟨⟨_, rfl, rfl⟩, ⟨_, rfl, rfl⟩, ⟨_, rfl, rfl⟩, ⟨_, rfl, rfl⟩, trivial⟩) ?_
    rintro ⟨i, hin, hj⟩
    refine evC_seq ?_
    refine evC_go0 (dec := []) (ks := [(0, 0), (0, 1), (0, 4), (0, 5), (0, 10)]) (s' := ⟨[(0, 0, Cont.cell (AV.rs 3 n false (bodyC f))), (0, 1, Cont.cell (AV.rs 4 m false (blowC g))), (0, 4, Cont.cell (AV.bool false)), (0, 5, Cont.cell (AV.int IntKind.i64 (↑i : Int))), (0, 10, Cont.cell (AV.bool (decide ((↑i : Int) < (↑n : Int)))))], 33, 39⟩) (by kernel_rfl) (by kernel_rfl) ?_
    refine evC_if (q := decide ((↑i : Int) < (↑n : Int))) (by kernel_rfl) (fun hc => ?_) (fun hc => ?_)
    · have hlt : (i : Int) < (n : Int) := of_decide_eq_true hc
      refine evC_skip ?_
      refine then_normal ?_
      refine evC_seq ?_
      refine evC_block ?_
      refine evC_go (dec := []) (ks := [(0, 0), (0, 1), (0, 4), (0, 5), (0, 18)]) (ps := [(0 : Int) ≤ (↑i : Int), (↑i : Int) < (↑n : Int), (3 : Nat) = (3 : Nat)]) (s' := ⟨[(0, 0, Cont.cell (AV.rs 3 n false (bodyC f))), (0, 1, Cont.cell (AV.rs 4 m false (blowC g))), (0, 4, Cont.cell (AV.bool false)), (0, 5, Cont.cell (AV.int IntKind.i64 (↑i : Int))), (0, 18, Cont.cell (AV.bool !mayX (cv 0 (f (Int.toNat (↑i : Int)))) (cv 1 (f (Int.toNat (↑i : Int)))) (cv 2 (f (Int.toNat (↑i : Int))))))], 81, 39⟩) (by kernel_rfl) (by kernel_rfl) ?_ ?_
      · exact ⟨by omega, hlt, rfl⟩
      refine evC_if (q := !mayX (cv 0 (f (Int.toNat (↑i : Int)))) (cv 1 (f (Int.toNat (↑i : Int)))) (cv 2 (f (Int.toNat (↑i : Int))))) (by kernel_rfl) (fun hc => ?_) (fun hc => ?_)
      · have hf : mX (f i) = false := by simpa [bodyC, st3, mX] using hc
        refine evC_go0 (dec := []) (ks := [(0, 0), (0, 1), (0, 4), (0, 5)]) (s' := ⟨[(0, 0, Cont.cell (AV.rs 3 n false (bodyC f))), (0, 1, Cont.cell (AV.rs 4 m false (blowC g))), (0, 4, Cont.cell (AV.bool false)), (0, 5, Cont.cell (AV.int IntKind.i64 (↑i : Int)))], 89, 39⟩) (by kernel_rfl) (by kernel_rfl) ?_
        refine evC_ret ?_
        refine block_ret ?_
        refine then_ret ?_
        refine round_ret ?_
        refine block_ret ?_
        refine then_ret ?_
        refine post_ret ?_
        refine ends_flat (vs := [AV.bool false]) (Nat.zero_lt_succ _) (by kernel_rfl) (flat_of _ (by kernel_rfl)) rfl ?_
        have : okAll n f m g = false := by simp only [okAll]; rw [all_false (i := i) (by omega) hf]; simp
        rw [this]; rfl
      · have hf : mX (f i) = true := by simpa [bodyC, st3, mX] using hc
        refine evC_skip ?_
        refine block_normal ?_
        refine then_normal ?_
        refine evC_goL0 (dec := []) (ks := [(0, 0), (0, 1), (0, 4), (0, 5)]) (s' := ⟨[(0, 0, Cont.cell (AV.rs 3 n false (bodyC f))), (0, 1, Cont.cell (AV.rs 4 m false (blowC g))), (0, 4, Cont.cell (AV.bool false)), (0, 5, Cont.cell (AV.int IntKind.i64 (IntKind.i64.wrap ((↑i : Int) + 1))))], 105, 39⟩) (by kernel_rfl) (by kernel_rfl) ?_
        rw [wrap_add_one (by omega : i < n) (by omega)]
        refine round_normal (⟨i + 1, by omega, fun j hj' => ?_⟩) (wk_go [] rfl (by decide) rfl rfl ⟨⟨_, rfl, rfl⟩, ⟨_, rfl, rfl⟩, ⟨_, rfl, rfl⟩, ⟨_, rfl, rfl⟩, trivial⟩) ?_
        · rcases Nat.lt_or_ge j i with h | h
          · exact hj j h
          · have : j = i := by omega
            subst this; exact hf
        · show n - (i + 1) < n - i; omega
    · have hlt : ¬ (i : Int) < (n : Int) := of_decide_eq_false hc
      have hall : (List.range n).all (fun i => mX (f i)) = true := all_true fun j hj' => hj j (by omega)
      refine evC_exit ?_
      refine then_exit ?_
      refine round_exit ?_
      refine block_exit ?_
      refine then_normal ?_
      refine evC_seq ?_
      refine evC_go0 (dec := []) (ks := [(0, 0), (0, 1), (0, 4), (0, 6)]) (s' := ⟨[(0, 0, Cont.cell (AV.rs 3 n false (bodyC f))), (0, 1, Cont.cell (AV.rs 4 m false (blowC g))), (0, 4, Cont.cell (AV.bool false)), (0, 6, Cont.cell (AV.int IntKind.i64 0))], 41, 39⟩) (by kernel_rfl) (by kernel_rfl) ?_
      refine evC_block ?_
      refine evC_loop (ι := { i : Nat // i ≤ m ∧ ∀ j, j < i → mB (g j) = true }) (fun x => ⟨[(0, 0, Cont.cell (AV.rs 3 n false (bodyC f))), (0, 1, Cont.cell (AV.rs 4 m false (blowC g))), (0, 4, Cont.cell (AV.bool false)), (0, 6, .cell (.int .i64 (x.1 : Nat)))], 1, 39⟩) (fun x => m - x.1) ⟨0, Nat.zero_le _, fun j hj => absurd hj (Nat.not_lt_zero j)⟩ (wk_go [] rfl (by decide) rfl rfl ⟨⟨_, rfl, rfl⟩, ⟨_, rfl, rfl⟩, ⟨_, rfl, rfl⟩, ⟨_, rfl, rfl⟩, trivial⟩) ?_
      rintro ⟨k, hkm, hk⟩
      refine evC_seq ?_
      refine evC_go0 (dec := []) (ks := [(0, 0), (0, 1), (0, 4), (0, 6), (0, 22)]) (s' := ⟨[(0, 0, Cont.cell (AV.rs 3 n false (bodyC f))), (0, 1, Cont.cell (AV.rs 4 m false (blowC g))), (0, 4, Cont.cell (AV.bool false)), (0, 6, Cont.cell (AV.int IntKind.i64 (↑k : Int))), (0, 22, Cont.cell (AV.bool (decide ((↑k : Int) < (↑m : Int)))))], 33, 39⟩) (by kernel_rfl) (by kernel_rfl) ?_
      refine evC_if (q := decide ((↑k : Int) < (↑m : Int))) (by kernel_rfl) (fun hc => ?_) (fun hc => ?_)
      · have hlt : (k : Int) < (m : Int) := of_decide_eq_true hc
        refine evC_skip ?_
        refine then_normal ?_
        refine evC_seq ?_
        refine evC_block ?_
        refine evC_go (dec := []) (ks := [(0, 0), (0, 1), (0, 4), (0, 6), (0, 30)]) (ps := [(0 : Int) ≤ (↑k : Int), (↑k : Int) < (↑m : Int), (4 : Nat) = (4 : Nat)]) (s' := ⟨[(0, 0, Cont.cell (AV.rs 3 n false (bodyC f))), (0, 1, Cont.cell (AV.rs 4 m false (blowC g))), (0, 4, Cont.cell (AV.bool false)), (0, 6, Cont.cell (AV.int IntKind.i64 (↑k : Int))), (0, 30, Cont.cell (AV.bool !mayB (cv 0 (g (Int.toNat (↑k : Int)))) (cv 1 (g (Int.toNat (↑k : Int)))) (cv 2 (g (Int.toNat (↑k : Int)))) (cv 3 (g (Int.toNat (↑k : Int))))))], 81, 39⟩) (by kernel_rfl) (by kernel_rfl) ?_ ?_
        · exact ⟨by omega, hlt, rfl⟩
        refine evC_if (q := !mayB (cv 0 (g (Int.toNat (↑k : Int)))) (cv 1 (g (Int.toNat (↑k : Int)))) (cv 2 (g (Int.toNat (↑k : Int)))) (cv 3 (g (Int.toNat (↑k : Int))))) (by kernel_rfl) (fun hc => ?_) (fun hc => ?_)
        · have hf : mB (g k) = false := by simpa [blowC, st4, mB] using hc
          refine evC_go0 (dec := []) (ks := [(0, 0), (0, 1), (0, 4), (0, 6)]) (s' := ⟨[(0, 0, Cont.cell (AV.rs 3 n false (bodyC f))), (0, 1, Cont.cell (AV.rs 4 m false (blowC g))), (0, 4, Cont.cell (AV.bool false)), (0, 6, Cont.cell (AV.int IntKind.i64 (↑k : Int)))], 89, 39⟩) (by kernel_rfl) (by kernel_rfl) ?_
          refine evC_ret ?_
          refine block_ret ?_
          refine then_ret ?_
          refine round_ret ?_
          refine block_ret ?_
          refine then_ret ?_
          refine post_ret ?_
          refine ends_flat (vs := [AV.bool false]) (Nat.zero_lt_succ _) (by kernel_rfl) (flat_of _ (by kernel_rfl)) rfl ?_
          have : okAll n f m g = false := by simp only [okAll]; rw [all_false (n := m) (i := k) (by omega) hf]; simp
          rw [this]; rfl
        · have hf : mB (g k) = true := by simpa [blowC, st4, mB] using hc
          refine evC_skip ?_
          refine block_normal ?_
          refine then_normal ?_
          refine evC_goL0 (dec := []) (ks := [(0, 0), (0, 1), (0, 4), (0, 6)]) (s' := ⟨[(0, 0, Cont.cell (AV.rs 3 n false (bodyC f))), (0, 1, Cont.cell (AV.rs 4 m false (blowC g))), (0, 4, Cont.cell (AV.bool false)), (0, 6, Cont.cell (AV.int IntKind.i64 (IntKind.i64.wrap ((↑k : Int) + 1))))], 105, 39⟩) (by kernel_rfl) (by kernel_rfl) ?_
          rw [wrap_add_one (by omega : k < m) (by omega)]
          refine round_normal (⟨k + 1, by omega, fun j hj' => ?_⟩) (wk_go [] rfl (by decide) rfl rfl ⟨⟨_, rfl, rfl⟩, ⟨_, rfl, rfl⟩, ⟨_, rfl, rfl⟩, ⟨_, rfl, rfl⟩, trivial⟩) ?_
          · rcases Nat.lt_or_ge j k with h | h
            · exact hk j h
            · have : j = k := by omega
              subst this; exact hf
          · show m - (k + 1) < m - k; omega
      · have hlt : ¬ (k : Int) < (m : Int) := of_decide_eq_false hc
        have hall2 : (List.range m).all (fun i => mB (g i)) = true := all_true fun j hj' => hk j (by omega)
        refine evC_exit ?_
        refine then_exit ?_
        refine round_exit ?_
        refine block_exit ?_
        refine then_normal ?_
        refine evC_go0 (dec := []) (ks := [(0, 4)]) (s' := ⟨[(0, 4, Cont.cell (AV.bool (bif decide ((↑n : Int) ≤ 256) then decide ((↑m : Int) ≤ 256) else false)))], 105, 39⟩) (by kernel_rfl) (by kernel_rfl) ?_
        refine evC_ret ?_
        refine post_ret ?_
        refine ends_flat (vs := [AV.bool (bif decide ((↑n : Int) ≤ 256) then decide ((↑m : Int) ≤ 256) else false)]) (Nat.zero_lt_succ _) (by kernel_rfl) (flat_of _ (by kernel_rfl)) rfl ?_
        have e1 : decide ((n : Int) ≤ 256) = decide (n ≤ 256) := by apply decide_eq_decide.2; omega
        have e2 : decide ((m : Int) ≤ 256) = decide (m ≤ 256) := by apply decide_eq_decide.2; omega
        simp [okAll, hall, hall2, oneAV, cond_and, e1, e2]
  · cases e

/-! What is left. -/
def hu (a : AV) (x y : Int) : Int := hurtsF (cv 0 a) (cv 1 a) (cv 2 a) (cv 3 a) x y
theorem hu_bound (a : AV) (x y : Int) : 0 ≤ hu a x y ∧ hu a x y ≤ 9999 := hurts_bound _ _ _ _ _ _
def hsum (g : Nat → AV) (x y : Int) : Nat → Int
  | 0 => 0
  | k + 1 => hsum g x y k + hu (g k) x y
theorem hsum_bound (g : Nat → AV) (x y : Int) (k : Nat) : 0 ≤ hsum g x y k ∧ hsum g x y k ≤ 9999 * k := by
  induction k with
  | zero => simp [hsum]
  | succ k ih => have := hu_bound (g k) x y; simp only [hsum]; omega
def leftF (g : Nat → AV) (m : Nat) (x y h : Int) : Int := if h ≤ hsum g x y m then 0 else h - hsum g x y m
def sLeft : Spec := fun args _ _ => match args with
  | [.agg [.int .i64 x, .int .i64 y, .int .i64 h], .rs 4 m false g] => some ⟨[(∀ i, i < m → g i = blowC g i) ∧ m ≤ 281474976710656 ∧ h < 2 ^ 62], .int .i64 (leftF g m x y h), [], []⟩
  | _ => none
theorem left_ok : SpecOK Try.prog 13 sLeft := by
  refine spec_own (by kernel_rfl) T_ok (sget_cons refHurts_ok sget_nil) Try.func13 rfl rfl fun args hr nb out e => ?_
  unfold sLeft at e
  split at e
  · rename_i x y h m g
    injection e with e; subst e
    refine ⟨(fun _ h => nomatch h), true, [.agg [.int .i64 x, .int .i64 y, .int .i64 h], .rs 4 m false (blowC g)], rfl, fun hs => ?_⟩
    obtain ⟨h1, h2, h3⟩ := hs _ List.mem_cons_self
    refine ⟨.cons _ _ _ _ (.same _ _ (flat_of _ rfl).has) (.cons _ _ _ _ (.rs _ _ _ _ _ _ fun i hi => ⟨h1 i hi, (blowC_flat g i).has⟩) .nil), ?_⟩
    clear hs
    refine evC_go0 (dec := []) (ks := [(0, 1), (0, 2), (0, 4), (1, 0), (1, 1), (1, 2), (1, 3)]) (s' := ⟨[(0, 1, Cont.cell (AV.rs 4 m false (blowC g))), (0, 2, Cont.cell (AV.ptr 1 0)), (0, 4, Cont.cell (AV.int IntKind.i64 0)), (1, 0, Cont.cell (AV.int IntKind.i64 x)), (1, 1, Cont.cell (AV.int IntKind.i64 y)), (1, 2, Cont.cell (AV.int IntKind.i64 h)), (1, 3, Cont.top)], 17, 32⟩) (by kernel_rfl) (by kernel_rfl) ?_
    refine evC_go0 (dec := []) (ks := [(0, 1), (0, 2), (0, 4), (0, 5), (1, 0), (1, 1), (1, 2), (1, 3)]) (s' := ⟨[(0, 1, Cont.cell (AV.rs 4 m false (blowC g))), (0, 2, Cont.cell (AV.ptr 1 0)), (0, 4, Cont.cell (AV.int IntKind.i64 0)), (0, 5, Cont.cell (AV.int IntKind.i64 0)), (1, 0, Cont.cell (AV.int IntKind.i64 x)), (1, 1, Cont.cell (AV.int IntKind.i64 y)), (1, 2, Cont.cell (AV.int IntKind.i64 h)), (1, 3, Cont.top)], 25, 32⟩) (by kernel_rfl) (by kernel_rfl) ?_
    refine evC_seq ?_
    refine evC_go0 (dec := []) (ks := [(0, 1), (0, 2), (0, 4), (0, 5), (0, 6), (1, 0), (1, 1), (1, 2), (1, 3)]) (s' := ⟨[(0, 1, Cont.cell (AV.rs 4 m false (blowC g))), (0, 2, Cont.cell (AV.ptr 1 0)), (0, 4, Cont.cell (AV.int IntKind.i64 0)), (0, 5, Cont.cell (AV.int IntKind.i64 0)), (0, 6, Cont.cell (AV.int IntKind.i64 0)), (1, 0, Cont.cell (AV.int IntKind.i64 x)), (1, 1, Cont.cell (AV.int IntKind.i64 y)), (1, 2, Cont.cell (AV.int IntKind.i64 h)), (1, 3, Cont.top)], 33, 32⟩) (by kernel_rfl) (by kernel_rfl) ?_
    refine evC_block ?_
    refine evC_loop (ι := { i : Nat // i ≤ m }) (fun x_1 => ⟨[(0, 1, Cont.cell (AV.rs 4 m false (blowC g))), (0, 2, Cont.cell (AV.ptr 1 0)), (0, 4, Cont.cell (AV.int IntKind.i64 0)), (0, 5, .cell (.int .i64 (hsum g x y x_1.1))), (0, 6, .cell (.int .i64 (x_1.1 : Nat))), (1, 0, Cont.cell (AV.int IntKind.i64 x)), (1, 1, Cont.cell (AV.int IntKind.i64 y)), (1, 2, Cont.cell (AV.int IntKind.i64 h)), (1, 3, Cont.top)], 2, 32⟩) (fun x_1 => m - x_1.1) ⟨0, Nat.zero_le _⟩ (wk_go [1] rfl (by decide) rfl rfl ⟨⟨_, rfl, rfl⟩, ⟨_, rfl, rfl⟩, ⟨_, rfl, rfl⟩, ⟨_, rfl, rfl⟩, ⟨_, rfl, rfl⟩, ⟨_, rfl, rfl⟩, ⟨_, rfl, rfl⟩, ⟨_, rfl, rfl⟩, ⟨_, rfl, trivial⟩, trivial⟩) ?_
    rintro ⟨k, hkm⟩
    have hk := hsum_bound g x y k
    refine evC_seq ?_
    refine evC_go0 (dec := []) (ks := [(0, 1), (0, 2), (0, 4), (0, 5), (0, 6), (0, 10), (1, 0), (1, 1), (1, 2), (1, 3)]) (s' := ⟨[(0, 1, Cont.cell (AV.rs 4 m false (blowC g))), (0, 2, Cont.cell (AV.ptr 1 0)), (0, 4, Cont.cell (AV.int IntKind.i64 0)), (0, 5, Cont.cell (AV.int IntKind.i64 (hsum g x y k))), (0, 6, Cont.cell (AV.int IntKind.i64 (↑k : Int))), (0, 10, Cont.cell (AV.bool (decide ((↑k : Int) < (↑m : Int))))), (1, 0, Cont.cell (AV.int IntKind.i64 x)), (1, 1, Cont.cell (AV.int IntKind.i64 y)), (1, 2, Cont.cell (AV.int IntKind.i64 h)), (1, 3, Cont.top)], 34, 32⟩) (by kernel_rfl) (by kernel_rfl) ?_
    refine evC_if (q := decide ((↑k : Int) < (↑m : Int))) (by kernel_rfl) (fun hc => ?_) (fun hc => ?_)
    · have hlt : (k : Int) < (m : Int) := of_decide_eq_true hc
      refine evC_skip ?_
      refine then_normal ?_
      refine evC_seq ?_
      refine evC_block ?_
      refine evC_goL (dec := []) (ks := [(0, 1), (0, 2), (0, 4), (0, 5), (0, 6), (1, 0), (1, 1), (1, 2), (1, 3)]) (ps := [(0 : Int) ≤ (↑k : Int), (↑k : Int) < (↑m : Int), (4 : Nat) = (4 : Nat)]) (s' := ⟨[(0, 1, Cont.cell (AV.rs 4 m false (blowC g))), (0, 2, Cont.cell (AV.ptr 1 0)), (0, 4, Cont.cell (AV.int IntKind.i64 0)), (0, 5, Cont.cell (AV.int IntKind.i64 (IntKind.i64.wrap (hsum g x y k + hurtsF (cv 0 (g (Int.toNat (↑k : Int)))) (cv 1 (g (Int.toNat (↑k : Int)))) (cv 2 (g (Int.toNat (↑k : Int)))) (cv 3 (g (Int.toNat (↑k : Int)))) x y)))), (0, 6, Cont.cell (AV.int IntKind.i64 (↑k : Int))), (1, 0, Cont.cell (AV.int IntKind.i64 x)), (1, 1, Cont.cell (AV.int IntKind.i64 y)), (1, 2, Cont.cell (AV.int IntKind.i64 h)), (1, 3, Cont.top)], 130, 32⟩) (by kernel_rfl) (by kernel_rfl) ?_ ?_
      · exact ⟨by omega, hlt, rfl⟩
      have hk1 := hsum_bound g x y (k + 1)
      refine block_normal ?_
      refine then_normal ?_
      refine evC_goL0 (dec := []) (ks := [(0, 1), (0, 2), (0, 4), (0, 5), (0, 6), (1, 0), (1, 1), (1, 2), (1, 3)]) (s' := ⟨[(0, 1, Cont.cell (AV.rs 4 m false (blowC g))), (0, 2, Cont.cell (AV.ptr 1 0)), (0, 4, Cont.cell (AV.int IntKind.i64 0)), (0, 5, Cont.cell (AV.int IntKind.i64 (IntKind.i64.wrap (hsum g x y k + hurtsF (cv 0 (g (Int.toNat (↑k : Int)))) (cv 1 (g (Int.toNat (↑k : Int)))) (cv 2 (g (Int.toNat (↑k : Int)))) (cv 3 (g (Int.toNat (↑k : Int)))) x y)))), (0, 6, Cont.cell (AV.int IntKind.i64 (IntKind.i64.wrap ((↑k : Int) + 1)))), (1, 0, Cont.cell (AV.int IntKind.i64 x)), (1, 1, Cont.cell (AV.int IntKind.i64 y)), (1, 2, Cont.cell (AV.int IntKind.i64 h)), (1, 3, Cont.top)], 154, 32⟩) (by kernel_rfl) (by kernel_rfl) ?_
      rw [wrap_add_one (by omega : k < m) (by omega)]
      refine round_normal (⟨k + 1, by omega⟩) (wk_go [1] rfl (by decide) rfl rfl ⟨⟨_, rfl, rfl⟩, ⟨_, rfl, rfl⟩, ⟨_, rfl, rfl⟩, ⟨_, rfl, ?_⟩, ⟨_, rfl, rfl⟩, ⟨_, rfl, rfl⟩, ⟨_, rfl, rfl⟩, ⟨_, rfl, rfl⟩, ⟨_, rfl, trivial⟩, trivial⟩) ?_
      · show AV.int .i64 (IntKind.i64.wrap (hsum g x y k + hu (g k) x y)) = AV.int .i64 (hsum g x y (k + 1))
        rw [i64_in _ (by simp only [hsum] at hk1; omega)]
        rfl
      · show m - (k + 1) < m - k; omega
    · have hlt : ¬ (k : Int) < (m : Int) := of_decide_eq_false hc
      have : k = m := by omega
      subst this
      refine evC_exit ?_
      refine then_exit ?_
      refine round_exit ?_
      refine block_exit ?_
      refine then_normal ?_
      refine evC_seq ?_
      refine evC_go0 (dec := []) (ks := [(0, 2), (0, 4), (0, 5), (0, 27), (1, 0), (1, 1), (1, 2), (1, 3)]) (s' := ⟨[(0, 2, Cont.cell (AV.ptr 1 0)), (0, 4, Cont.cell (AV.int IntKind.i64 0)), (0, 5, Cont.cell (AV.int IntKind.i64 (hsum g x y k))), (0, 27, Cont.cell (AV.bool (decide (hsum g x y k ≥ h)))), (1, 0, Cont.cell (AV.int IntKind.i64 x)), (1, 1, Cont.cell (AV.int IntKind.i64 y)), (1, 2, Cont.cell (AV.int IntKind.i64 h)), (1, 3, Cont.top)], 66, 32⟩) (by kernel_rfl) (by kernel_rfl) ?_
      refine evC_if (q := decide (hsum g x y k ≥ h)) (by kernel_rfl) (fun hc => ?_) (fun hc => ?_)
      · have hg : hsum g x y k ≥ h := of_decide_eq_true hc
        refine evC_go0 (dec := []) (ks := [(0, 2), (0, 4), (0, 5), (1, 0), (1, 1), (1, 2), (1, 3)]) (s' := ⟨[(0, 2, Cont.cell (AV.ptr 1 0)), (0, 4, Cont.cell (AV.int IntKind.i64 0)), (0, 5, Cont.cell (AV.int IntKind.i64 (hsum g x y k))), (1, 0, Cont.cell (AV.int IntKind.i64 x)), (1, 1, Cont.cell (AV.int IntKind.i64 y)), (1, 2, Cont.cell (AV.int IntKind.i64 h)), (1, 3, Cont.top)], 74, 32⟩) (by kernel_rfl) (by kernel_rfl) ?_
        refine evC_ret ?_
        refine then_ret ?_
        refine post_ret ?_
        refine ends_flat (vs := [AV.int IntKind.i64 0]) (Nat.zero_lt_succ _) (by kernel_rfl) (flat_of _ (by kernel_rfl)) rfl ?_
        simp only [leftF]
        rw [if_pos hg]; rfl
      · have hg : ¬ hsum g x y k ≥ h := of_decide_eq_false hc
        refine evC_skip ?_
        refine then_normal ?_
        refine evC_go0 (dec := []) (ks := [(0, 4)]) (s' := ⟨[(0, 4, Cont.cell (AV.int IntKind.i64 (IntKind.i64.wrap (h - hsum g x y k))))], 106, 32⟩) (by kernel_rfl) (by kernel_rfl) ?_
        refine evC_ret ?_
        refine post_ret ?_
        refine ends_flat (vs := [AV.int IntKind.i64 (IntKind.i64.wrap (h - hsum g x y k))]) (Nat.zero_lt_succ _) (by kernel_rfl) (flat_of _ (by kernel_rfl)) rfl ?_
        simp only [leftF]
        rw [if_neg hg, i64_in _ (by omega)]; rfl
  · cases e

/-! The closure that hits. -/
def sHit : Spec := fun args hr _ => match args with
  | [.agg [.int .i64 bx, .int .i64 b_y, .int .i64 d, .int .i64 s], .ptr n 0, .ptr k 0] => match hr n 0, hr n 1, hr k 0, hr k 1, hr k 2, hr k 3 with
    | some (.cell (.int .i64 l)), some .top, some (.cell (.int .i64 x)), some (.cell (.int .i64 y)), some (.cell (.int .i64 h)), some .top =>
      some ⟨[n ≠ k ∧ 0 < n ∧ 0 < k ∧ 0 ≤ l ∧ l < 2 ^ 62], .tup [], [(n, 0, .cell (.int .i64 l)), (n, 1, .top), (k, 0, .cell (.int .i64 x)), (k, 1, .cell (.int .i64 y)), (k, 2, .cell (.int .i64 h)), (k, 3, .top)],
        [(n, 0, .cell (.int .i64 (mx2 0 (l - hurtsF bx b_y d s x y))))]⟩
    | _, _, _, _, _, _ => none
  | _ => none
theorem hit_ok : SpecOK Try.prog 18 sHit := by
  refine spec_at (by kernel_rfl) T_ok (sget_cons hurts_ok sget_nil) Try.func18 rfl rfl fun args hr nb out e => ?_
  unfold sHit at e
  split at e
  · rename_i bx b_y d s n k
    split at e
    · rename_i l x y h e1 e2 e3 e4 e5 e6
      injection e with e; subst e
      refine ⟨?_, true, [n, k], [.agg [.int .i64 bx, .int .i64 b_y, .int .i64 d, .int .i64 s], .ptr 1 0, .ptr 2 0],
        [(1, 0, .cell (.int .i64 l)), (1, 1, .top), (2, 0, .cell (.int .i64 x)), (2, 1, .cell (.int .i64 y)), (2, 2, .cell (.int .i64 h)), (2, 3, .top)], rfl, fun hs => ?_⟩
      · simp [e1, e2, e3, e4, e5, e6]
      obtain ⟨hnk, hn, hk, hl, hl2⟩ := hs _ List.mem_cons_self
      refine ⟨by simp [hnk], ?_, .cons _ _ _ _ (.same _ _ (flat_of _ rfl).has) (.cons _ _ _ _ (.name _ _ _ rfl) (.cons _ _ _ _ (.name _ _ _ rfl) .nil)), ?_, ?_⟩
      · intro z hz
        simp at hz
        rcases hz with rfl | rfl
        · exact ⟨hn, whole_laid [.cell (.int .i64 l)] rfl (by simp [laid, Cont.wd])⟩
        · exact ⟨hk, whole_laid [.cell (.int .i64 x), .cell (.int .i64 y), .cell (.int .i64 h)] rfl (by simp [laid, Cont.wd])⟩
      · exact InitH.get ⟨⟨0, 0, _, _, rfl, rfl, rfl, rfl⟩, ⟨0, 1, _, _, rfl, rfl, rfl, trivial⟩, ⟨1, 2, _, _, rfl, rfl, rfl, rfl⟩, ⟨1, 3, _, _, rfl, rfl, rfl, rfl⟩, ⟨1, 4, _, _, rfl, rfl, rfl, rfl⟩, ⟨1, 5, _, _, rfl, rfl, rfl, trivial⟩, trivial⟩
      clear hs
      have hb := hurts_bound bx b_y d s x y
      refine evC_go0 (dec := []) (ks := [(0, 1), (0, 2), (0, 3), (1, 0), (1, 1), (2, 0), (2, 1), (2, 2), (2, 3), (3, 0), (3, 1), (3, 2), (3, 3), (3, 4)]) (s' := ⟨[(0, 1, Cont.cell (AV.ptr 1 0)), (0, 2, Cont.cell (AV.ptr 2 0)), (0, 3, Cont.cell (AV.ptr 3 0)), (1, 0, Cont.cell (AV.int IntKind.i64 l)), (1, 1, Cont.top), (2, 0, Cont.cell (AV.int IntKind.i64 x)), (2, 1, Cont.cell (AV.int IntKind.i64 y)), (2, 2, Cont.cell (AV.int IntKind.i64 h)), (2, 3, Cont.top), (3, 0, Cont.cell (AV.int IntKind.i64 bx)), (3, 1, Cont.cell (AV.int IntKind.i64 b_y)), (3, 2, Cont.cell (AV.int IntKind.i64 d)), (3, 3, Cont.cell (AV.int IntKind.i64 s)), (3, 4, Cont.top)], 11, 13⟩) (by kernel_rfl) (by kernel_rfl) ?_
      refine evC_goL0 (dec := []) (ks := [(1, 0), (1, 1), (2, 0), (2, 1), (2, 2), (2, 3)]) (s' := ⟨[(1, 0, Cont.cell (AV.int IntKind.i64 (mx2 0 (IntKind.i64.wrap (l - hurtsF bx b_y d s x y))))), (1, 1, Cont.top), (2, 0, Cont.cell (AV.int IntKind.i64 x)), (2, 1, Cont.cell (AV.int IntKind.i64 y)), (2, 2, Cont.cell (AV.int IntKind.i64 h)), (2, 3, Cont.top)], 91, 13⟩) (by kernel_rfl) (by kernel_rfl) ?_
      refine post_normal ?_
      rw [i64_in _ (by omega)]
      refine ends_go [] (AV.tup []) [(1, 0, Cont.cell (AV.int IntKind.i64 (mx2 0 (l - hurtsF bx b_y d s x y)))), (1, 1, Cont.top), (2, 0, Cont.cell (AV.int IntKind.i64 x)), (2, 1, Cont.cell (AV.int IntKind.i64 y)), (2, 2, Cont.cell (AV.int IntKind.i64 h)), (2, 3, Cont.top)] rfl (by decide) rfl rfl (has_of _ rfl) rfl ⟨⟨_, rfl, rfl⟩, ⟨_, rfl, trivial⟩, ⟨_, rfl, rfl⟩, ⟨_, rfl, rfl⟩, ⟨_, rfl, rfl⟩, ⟨_, rfl, trivial⟩, trivial⟩ ⟨⟨1, _, rfl, rfl, rfl, ⟨has_of _ rfl, rfl⟩⟩, trivial⟩ ⟨fun _ => .inl ⟨by simp [keyIn, upKeys], fun sz h => by simp at h⟩, fun _ => .inr ⟨0, _, rfl, rfl, trivial⟩, fun _ => .inr ⟨1, _, rfl, rfl, ⟨has_of _ rfl, rfl⟩⟩, fun _ => .inr ⟨1, _, rfl, rfl, ⟨has_of _ rfl, rfl⟩⟩, fun _ => .inr ⟨1, _, rfl, rfl, ⟨has_of _ rfl, rfl⟩⟩, fun _ => .inr ⟨1, _, rfl, rfl, trivial⟩, trivial⟩
    · cases e
  · cases e
end Go.Eng.S18
