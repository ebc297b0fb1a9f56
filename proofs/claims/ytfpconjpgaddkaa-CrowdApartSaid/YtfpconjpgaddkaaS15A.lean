/- Seat 15: who stands where, and what may be, walked. -/
import Derived.Test.YtfpconjpgaddkaaEngX
import Derived.Test.YtfpconjpgaddkaaEngX
import Derived.Test.YtfpconjpgaddkaaProg
set_option linter.unusedSimpArgs false
set_option linter.unusedVariables false
namespace Go.Eng.S15
open Go.Proofs Go.IntWalk
def T : Tab := [(3, ⟨1, 8, .int .i64, [.int .i64 0]⟩),
  (4, ⟨1, 1, .bool, [.bool false]⟩),
  (22, ⟨1, 24, .slice 4, [.nils]⟩),
  (23, ⟨1, 24, .slice 3, [.nils]⟩),
  (25, ⟨4, 80, .struct [(0, 3, 1), (1, 22, 1), (2, 23, 1), (3, 23, 1)], [.int .i64 0, .nils, .nils, .nils]⟩),
  (27, ⟨1, 8, .int .i64, [.int .i64 0]⟩),
  (40, ⟨1, 8, .map 3 3, [.nilm]⟩)]
theorem T_ok : TabOK Try.prog T := by
  have e : tabOf Try.prog [3, 4, 22, 23, 25, 27, 40] = T := by kernel_rfl
  exact e ▸ tabOf_sound Try.prog [3, 4, 22, 23, 25, 27, 40]
set_option maxRecDepth 10000

/-- Rows of numbers, of bools. -/
def nI (w : Nat → Int) : Nat → AV := fun i => .int .i64 (w i)
def nB (g : Nat → Bool) : Nat → AV := fun i => .bool (g i)
theorem nI_flat (w : Nat → Int) (i : Nat) : Flat (nI w i) := .int _ _
theorem nB_flat (g : Nat → Bool) (i : Nat) : Flat (nB g i) := .bool _
def W (f : Nat → AV) : Nat → Int := fun i => iv (f i)
def G (f : Nat → AV) : Nat → Bool := fun i => bv (f i)

/-! Who is on a cell. -/
def onF (w : Nat → Int) (n : Nat) (c : Int) : Int := bif Nat.blt (fstN (fun j => w j == c) n) n then (fstN (fun j => w j == c) n : Nat) else -1
def sOn : Spec := fun args hr _ => match args with
  | [v, .int .i64 c] => match sl 1 hr v with
    | some (n, f, rd) => some ⟨[(∀ i, i < n → f i = nI (W f) i) ∧ n ≤ maxLen], .int .i64 (onF (W f) n c), rd, []⟩
    | _ => none
  | _ => none
theorem on_ok : SpecOK Try.prog 19 sOn := by
  refine spec_own (by kernel_rfl) T_ok sget_nil Try.func19 rfl rfl fun args hr nb out e => ?_
  unfold sOn at e
  split at e
  · rename_i v c
    split at e
    · rename_i n f rd hs1
      injection e with e; subst e
      refine ⟨sl_rd hs1, false, [.rs 1 n false (nI (W f)), .int .i64 c], rfl, fun hs => ?_⟩
      obtain ⟨h1, h2⟩ := hs _ List.mem_cons_self
      refine ⟨.cons _ _ _ _ (.slice _ _ _ _ _ hs1 (fun y hy => ⟨hy, by simp⟩) _ fun i hi => ⟨h1 i hi, (nI_flat _ i).has⟩) (.cons _ _ _ _ (.same _ _ (.int _ _)) .nil), ?_⟩
      clear hs h1
      unfold maxLen at h2
      generalize W f = w
      refine evC_go0 (dec := []) (ks := [(0, 0), (0, 1), (0, 4)]) (s' := ⟨[(0, 0, Cont.cell (AV.rs 1 n false (nI w))), (0, 1, Cont.cell (AV.int IntKind.i64 c)), (0, 4, Cont.cell (AV.int IntKind.i64 0))], 9, 19⟩) (by kernel_rfl) (by kernel_rfl) ?_
      refine evC_seq ?_
      refine evC_go0 (dec := []) (ks := [(0, 0), (0, 1), (0, 4), (0, 5)]) (s' := ⟨[(0, 0, Cont.cell (AV.rs 1 n false (nI w))), (0, 1, Cont.cell (AV.int IntKind.i64 c)), (0, 4, Cont.cell (AV.int IntKind.i64 0)), (0, 5, Cont.cell (AV.int IntKind.i64 0))], 17, 19⟩) (by kernel_rfl) (by kernel_rfl) ?_
      refine evC_block ?_
      refine evC_loop (ι := { i : Nat // i ≤ n ∧ ∀ j, j < i → (w j == c) = false }) (fun x => ⟨[(0, 0, Cont.cell (AV.rs 1 n false (nI w))), (0, 1, Cont.cell (AV.int IntKind.i64 c)), (0, 4, Cont.cell (AV.int IntKind.i64 0)), (0, 5, .cell (.int .i64 (x.1 : Nat)))], 1, 19⟩) (fun x => n - x.1) ⟨0, Nat.zero_le _, fun j hj => absurd hj (Nat.not_lt_zero j)⟩ (wk_go [] rfl (by decide) rfl rfl ⟨⟨_, rfl, rfl⟩, ⟨_, rfl, rfl⟩, ⟨_, rfl, rfl⟩, ⟨_, rfl, rfl⟩, trivial⟩) ?_
      rintro ⟨i, hi, hj⟩
      refine evC_seq ?_
      refine evC_go0 (dec := []) (ks := [(0, 0), (0, 1), (0, 4), (0, 5), (0, 9)]) (s' := ⟨[(0, 0, Cont.cell (AV.rs 1 n false (nI w))), (0, 1, Cont.cell (AV.int IntKind.i64 c)), (0, 4, Cont.cell (AV.int IntKind.i64 0)), (0, 5, Cont.cell (AV.int IntKind.i64 (↑i : Int))), (0, 9, Cont.cell (AV.bool (decide ((↑i : Int) < (↑n : Int)))))], 33, 19⟩) (by kernel_rfl) (by kernel_rfl) ?_
      refine evC_if (q := decide ((↑i : Int) < (↑n : Int))) (by kernel_rfl) (fun hc => ?_) (fun hc => ?_)
      · have hlt : i < n := by have := of_decide_eq_true hc; omega
        clear hc
        refine evC_skip ?_
        refine then_normal ?_
        refine evC_seq ?_
        refine evC_block ?_
        refine evC_go (dec := []) (ks := [(0, 0), (0, 1), (0, 4), (0, 5), (0, 17)]) (ps := [(0 : Int) ≤ (↑i : Int), (↑i : Int) < (↑n : Int), (1 : Nat) = (1 : Nat)]) (s' := ⟨[(0, 0, Cont.cell (AV.rs 1 n false (nI w))), (0, 1, Cont.cell (AV.int IntKind.i64 c)), (0, 4, Cont.cell (AV.int IntKind.i64 0)), (0, 5, Cont.cell (AV.int IntKind.i64 (↑i : Int))), (0, 17, Cont.cell (AV.bool (w i == c)))], 81, 19⟩) (by kernel_rfl) (by kernel_rfl) ?_ ?_
        · (simp only [All]; (repeat' apply And.intro) <;> (try intro _) <;> (try intro _) <;> (repeat' apply And.intro) <;> (try intro _) <;> (try intro _) <;> first | trivial | assumption | exact .inr trivial | exact .inr rfl | omega | rfl | exact ⟨_, rfl, rfl⟩ | exact ⟨rfl, rfl⟩ | exact ⟨fun _ => rfl, fun _ => rfl⟩ | (unfold maxLen; omega) | (unfold i64R; first | omega | decide) | decide)
        refine evC_if (q := w i == c) (by kernel_rfl) (fun hc => ?_) (fun hc => ?_)
        · have hf : (w i == c) = true := hc
          refine evC_go0 (dec := []) (ks := [(0, 0), (0, 1), (0, 4), (0, 5)]) (s' := ⟨[(0, 0, Cont.cell (AV.rs 1 n false (nI w))), (0, 1, Cont.cell (AV.int IntKind.i64 c)), (0, 4, Cont.cell (AV.int IntKind.i64 (↑i : Int))), (0, 5, Cont.cell (AV.int IntKind.i64 (↑i : Int)))], 97, 19⟩) (by kernel_rfl) (by kernel_rfl) ?_
          refine evC_ret ?_
          refine block_ret ?_
          refine then_ret ?_
          refine round_ret ?_
          refine block_ret ?_
          refine then_ret ?_
          refine post_ret ?_
          refine ends_flat (vs := [AV.int IntKind.i64 (↑i : Int)]) (Nat.zero_lt_succ _) (by kernel_rfl) (flat_of _ (by kernel_rfl)) rfl ?_
          have e1 := fst_at (p := fun j => w j == c) hlt hf hj
          have e2 : Nat.blt i n = true := by simpa [Nat.blt_eq] using hlt
          unfold onF
          rw [e1, e2]; rfl
        · have hf : (w i == c) = false := hc
          refine evC_skip ?_
          refine block_normal ?_
          refine then_normal ?_
          refine evC_goL0 (dec := []) (ks := [(0, 0), (0, 1), (0, 4), (0, 5)]) (s' := ⟨[(0, 0, Cont.cell (AV.rs 1 n false (nI w))), (0, 1, Cont.cell (AV.int IntKind.i64 c)), (0, 4, Cont.cell (AV.int IntKind.i64 0)), (0, 5, Cont.cell (AV.int IntKind.i64 (IntKind.i64.wrap ((↑i : Int) + 1))))], 105, 19⟩) (by kernel_rfl) (by kernel_rfl) ?_
          rw [wrap_add_one hlt (by omega)]
          refine round_normal (⟨i + 1, by omega, fun j hj' => ?_⟩) (wk_go [] rfl (by decide) rfl rfl ⟨⟨_, rfl, rfl⟩, ⟨_, rfl, rfl⟩, ⟨_, rfl, rfl⟩, ⟨_, rfl, rfl⟩, trivial⟩) ?_
          · rcases Nat.lt_or_ge j i with h | h
            · exact hj j h
            · have : j = i := by omega
              subst this; exact hf
          · show n - (i + 1) < n - i; omega
      · have hlt : i = n := by have := of_decide_eq_false hc; omega
        subst hlt
        refine evC_exit ?_
        refine then_exit ?_
        refine round_exit ?_
        refine block_exit ?_
        refine then_normal ?_
        refine evC_go0 (dec := []) (ks := [(0, 4)]) (s' := ⟨[(0, 4, Cont.cell (AV.int IntKind.i64 (-1)))], 41, 19⟩) (by kernel_rfl) (by kernel_rfl) ?_
        refine evC_ret ?_
        refine post_ret ?_
        refine ends_flat (vs := [AV.int IntKind.i64 (-1)]) (Nat.zero_lt_succ _) (by kernel_rfl) (flat_of _ (by kernel_rfl)) rfl ?_
        have e1 := fst_none (p := fun j => w j == c) hj
        have e2 : Nat.blt i i = false := by cases e : Nat.blt i i with | false => rfl | true => simp [Nat.blt_eq] at e
        unfold onF
        rw [e1, e2]; rfl
    · cases e
  · cases e

/-! How many stand on a cell. -/
def cntN (w : Nat → Int) : Nat → Nat
  | 0 => 0
  | k + 1 => bif w k != -1 then cntN w k + 1 else cntN w k
theorem cntN_le (w : Nat → Int) (k : Nat) : cntN w k ≤ k := by
  induction k with
  | zero => exact Nat.le_refl _
  | succ k ih => simp only [cntN]; cases w k != -1 <;> simp <;> omega
def sCount : Spec := fun args hr _ => match args with
  | [v] => match sl 1 hr v with
    | some (n, f, rd) => some ⟨[(∀ i, i < n → f i = nI (W f) i) ∧ n ≤ maxLen], .int .i64 (cntN (W f) n), rd, []⟩
    | _ => none
  | _ => none
theorem count_ok : SpecOK Try.prog 18 sCount := by
  refine spec_own (by kernel_rfl) T_ok sget_nil Try.func18 rfl rfl fun args hr nb out e => ?_
  unfold sCount at e
  split at e
  · rename_i v
    split at e
    · rename_i n f rd hs1
      injection e with e; subst e
      refine ⟨sl_rd hs1, false, [.rs 1 n false (nI (W f))], rfl, fun hs => ?_⟩
      obtain ⟨h1, h2⟩ := hs _ List.mem_cons_self
      refine ⟨.cons _ _ _ _ (.slice _ _ _ _ _ hs1 (fun y hy => ⟨hy, by simp⟩) _ fun i hi => ⟨h1 i hi, (nI_flat _ i).has⟩) .nil, ?_⟩
      clear hs h1
      unfold maxLen at h2
      generalize W f = w
      refine evC_go0 (dec := []) (ks := [(0, 0), (0, 2)]) (s' := ⟨[(0, 0, Cont.cell (AV.rs 1 n false (nI w))), (0, 2, Cont.cell (AV.int IntKind.i64 0))], 9, 18⟩) (by kernel_rfl) (by kernel_rfl) ?_
      refine evC_go0 (dec := []) (ks := [(0, 0), (0, 2), (0, 3)]) (s' := ⟨[(0, 0, Cont.cell (AV.rs 1 n false (nI w))), (0, 2, Cont.cell (AV.int IntKind.i64 0)), (0, 3, Cont.cell (AV.int IntKind.i64 0))], 17, 18⟩) (by kernel_rfl) (by kernel_rfl) ?_
      refine evC_seq ?_
      refine evC_go0 (dec := []) (ks := [(0, 2), (0, 3), (0, 6), (0, 7), (0, 8)]) (s' := ⟨[(0, 2, Cont.cell (AV.int IntKind.i64 0)), (0, 3, Cont.cell (AV.int IntKind.i64 0)), (0, 6, Cont.cell (AV.rs 1 n false (nI w))), (0, 7, Cont.cell (AV.int IntKind.i64 (↑n : Int))), (0, 8, Cont.cell (AV.int IntKind.i64 0))], 41, 18⟩) (by kernel_rfl) (by kernel_rfl) ?_
      refine evC_block ?_
      refine evC_loop (ι := { i : Nat // i ≤ n }) (fun x => ⟨[(0, 2, Cont.cell (AV.int IntKind.i64 0)), (0, 3, .cell (.int .i64 (cntN w x.1 : Nat))), (0, 6, Cont.cell (AV.rs 1 n false (nI w))), (0, 7, Cont.cell (AV.int IntKind.i64 (↑n : Int))), (0, 8, .cell (.int .i64 (x.1 : Nat)))], 1, 18⟩) (fun x => n - x.1) ⟨0, Nat.zero_le _⟩ (wk_go [] rfl (by decide) rfl rfl ⟨⟨_, rfl, rfl⟩, ⟨_, rfl, rfl⟩, ⟨_, rfl, rfl⟩, ⟨_, rfl, rfl⟩, ⟨_, rfl, rfl⟩, trivial⟩) ?_
      rintro ⟨i, hi⟩
      have hl := cntN_le w i
      refine evC_go0 (dec := []) (ks := [(0, 2), (0, 3), (0, 6), (0, 7), (0, 8), (0, 9)]) (s' := ⟨[(0, 2, Cont.cell (AV.int IntKind.i64 0)), (0, 3, Cont.cell (AV.int IntKind.i64 (↑(cntN w i) : Int))), (0, 6, Cont.cell (AV.rs 1 n false (nI w))), (0, 7, Cont.cell (AV.int IntKind.i64 (↑n : Int))), (0, 8, Cont.cell (AV.int IntKind.i64 (↑i : Int))), (0, 9, Cont.cell (AV.bool (decide ((↑i : Int) < (↑n : Int)))))], 9, 18⟩) (by kernel_rfl) (by kernel_rfl) ?_
      refine evC_seq ?_
      refine evC_if (q := decide ((↑i : Int) < (↑n : Int))) (by kernel_rfl) (fun hc => ?_) (fun hc => ?_)
      · have hlt : i < n := by have := of_decide_eq_true hc; omega
        clear hc
        refine evC_skip ?_
        refine then_normal ?_
        refine evC_seq ?_
        refine evC_block ?_
        refine evC_go (dec := []) (ks := [(0, 2), (0, 3), (0, 5), (0, 6), (0, 7), (0, 8)]) (ps := [(0 : Int) ≤ (↑i : Int), (↑i : Int) < (↑n : Int), (1 : Nat) = (1 : Nat)]) (s' := ⟨[(0, 2, Cont.cell (AV.int IntKind.i64 0)), (0, 3, Cont.cell (AV.int IntKind.i64 (↑(cntN w i) : Int))), (0, 5, Cont.cell (AV.int IntKind.i64 (w i))), (0, 6, Cont.cell (AV.rs 1 n false (nI w))), (0, 7, Cont.cell (AV.int IntKind.i64 (↑n : Int))), (0, 8, Cont.cell (AV.int IntKind.i64 (↑i : Int)))], 33, 18⟩) (by kernel_rfl) (by kernel_rfl) ?_ ?_
        · (simp only [All]; (repeat' apply And.intro) <;> (try intro _) <;> (try intro _) <;> (repeat' apply And.intro) <;> (try intro _) <;> (try intro _) <;> first | trivial | assumption | exact .inr trivial | exact .inr rfl | omega | rfl | exact ⟨_, rfl, rfl⟩ | exact ⟨rfl, rfl⟩ | exact ⟨fun _ => rfl, fun _ => rfl⟩ | (unfold maxLen; omega) | (unfold i64R; first | omega | decide) | decide)
        refine evC_cutIn (ι := Unit) (fun _ => ⟨[(0, 2, Cont.cell (AV.int IntKind.i64 0)), (0, 3, .cell (.int .i64 (cntN w (i + 1) : Nat))), (0, 5, Cont.cell (AV.int IntKind.i64 (w i))), (0, 6, Cont.cell (AV.rs 1 n false (nI w))), (0, 7, Cont.cell (AV.int IntKind.i64 (↑n : Int))), (0, 8, Cont.cell (AV.int IntKind.i64 (↑i : Int)))], 1, 18⟩) ?_ ?_
        · refine evC_go0 (dec := []) (ks := [(0, 2), (0, 3), (0, 5), (0, 6), (0, 7), (0, 8), (0, 13)]) (s' := ⟨[(0, 2, Cont.cell (AV.int IntKind.i64 0)), (0, 3, Cont.cell (AV.int IntKind.i64 (↑(cntN w i) : Int))), (0, 5, Cont.cell (AV.int IntKind.i64 (w i))), (0, 6, Cont.cell (AV.rs 1 n false (nI w))), (0, 7, Cont.cell (AV.int IntKind.i64 (↑n : Int))), (0, 8, Cont.cell (AV.int IntKind.i64 (↑i : Int))), (0, 13, Cont.cell (AV.bool (w i != -1)))], 49, 18⟩) (by kernel_rfl) (by kernel_rfl) ?_
          refine evC_if (q := w i != -1) (by kernel_rfl) (fun hc => ?_) (fun hc => ?_)
          · have hf : (w i != -1) = true := hc
            refine evC_goL0 (dec := []) (ks := [(0, 2), (0, 3), (0, 5), (0, 6), (0, 7), (0, 8)]) (s' := ⟨[(0, 2, Cont.cell (AV.int IntKind.i64 0)), (0, 3, Cont.cell (AV.int IntKind.i64 (IntKind.i64.wrap ((↑(cntN w i) : Int) + 1)))), (0, 5, Cont.cell (AV.int IntKind.i64 (w i))), (0, 6, Cont.cell (AV.rs 1 n false (nI w))), (0, 7, Cont.cell (AV.int IntKind.i64 (↑n : Int))), (0, 8, Cont.cell (AV.int IntKind.i64 (↑i : Int)))], 73, 18⟩) (by kernel_rfl) (by kernel_rfl) ?_
            rw [i64_in _ (by omega)]
            refine cutB_normal (()) (wk_go [] rfl (by decide) rfl rfl ⟨⟨_, rfl, rfl⟩, ⟨_, rfl, ?_⟩, ⟨_, rfl, rfl⟩, ⟨_, rfl, rfl⟩, ⟨_, rfl, rfl⟩, ⟨_, rfl, rfl⟩, trivial⟩)
            show AV.int .i64 _ = AV.int .i64 _
            simp only [cntN]; rw [hf]; rfl
          · have hf : (w i != -1) = false := hc
            refine evC_skip ?_
            refine cutB_normal (()) (wk_go [] rfl (by decide) rfl rfl ⟨⟨_, rfl, rfl⟩, ⟨_, rfl, ?_⟩, ⟨_, rfl, rfl⟩, ⟨_, rfl, rfl⟩, ⟨_, rfl, rfl⟩, ⟨_, rfl, rfl⟩, trivial⟩)
            show AV.int .i64 _ = AV.int .i64 _
            simp only [cntN]; rw [hf]; rfl
        intro _
        refine evC_goL0 (dec := []) (ks := [(0, 2), (0, 3), (0, 6), (0, 7), (0, 8)]) (s' := ⟨[(0, 2, Cont.cell (AV.int IntKind.i64 0)), (0, 3, Cont.cell (AV.int IntKind.i64 (↑(cntN w (i + 1)) : Int))), (0, 6, Cont.cell (AV.rs 1 n false (nI w))), (0, 7, Cont.cell (AV.int IntKind.i64 (↑n : Int))), (0, 8, Cont.cell (AV.int IntKind.i64 (IntKind.i64.wrap ((↑i : Int) + 1))))], 17, 18⟩) (by kernel_rfl) (by kernel_rfl) ?_
        rw [wrap_add_one hlt (by omega)]
        refine round_normal (⟨i + 1, by omega⟩) (wk_go [] rfl (by decide) rfl rfl ⟨⟨_, rfl, rfl⟩, ⟨_, rfl, rfl⟩, ⟨_, rfl, rfl⟩, ⟨_, rfl, rfl⟩, ⟨_, rfl, rfl⟩, trivial⟩) ?_
        show n - (i + 1) < n - i; omega
      · have hlt : i = n := by have := of_decide_eq_false hc; omega
        subst hlt
        refine evC_exit ?_
        refine then_exit ?_
        refine round_exit ?_
        refine block_exit ?_
        refine then_normal ?_
        refine evC_go0 (dec := []) (ks := [(0, 2)]) (s' := ⟨[(0, 2, Cont.cell (AV.int IntKind.i64 (↑(cntN w i) : Int)))], 25, 18⟩) (by kernel_rfl) (by kernel_rfl) ?_
        refine evC_ret ?_
        refine post_ret ?_
        refine ends_flat (vs := [AV.int IntKind.i64 (↑(cntN w i) : Int)]) (Nat.zero_lt_succ _) (by kernel_rfl) (flat_of _ (by kernel_rfl)) rfl ?_
        rfl
    · cases e
  · cases e

/-! Who stands on which cell. -/
def stE (w : Nat → Int) : Nat → List (List Int × AV)
  | 0 => []
  | k + 1 => bif w k != -1 then mput (stE w k) [w k] (.int .i64 (k : Nat)) else stE w k
theorem stE_yes {w : Nat → Int} {k : Nat} (h : (w k != -1) = true) : stE w (k + 1) = mput (stE w k) [w k] (.int .i64 (k : Nat)) := by simp only [stE]; rw [h]; rfl
theorem stE_no {w : Nat → Int} {k : Nat} (h : (w k != -1) = false) : stE w (k + 1) = stE w k := by simp only [stE]; rw [h]; rfl
theorem stE_flat (w : Nat → Int) : ∀ k, FlatM (stE w k)
  | 0 => .nil
  | k + 1 => by
    cases h : (w k != -1) with
    | true => rw [stE_yes h]; exact (stE_flat w k).put (.int _ _)
    | false => rw [stE_no h]; exact stE_flat w k
def sStand : Spec := fun args hr nb => match args with
  | [v] => match sl 1 hr v with
    | some (n, f, rd) => some ⟨[(∀ i, i < n → f i = nI (W f) i) ∧ n ≤ maxLen], .mp nb, rd, [(nb, 0, .map 1 (stE (W f) n))]⟩
    | _ => none
  | _ => none
theorem stand_ok : SpecOK Try.prog 17 sStand := by
  refine spec_own (by kernel_rfl) T_ok sget_nil Try.func17 rfl rfl fun args hr nb out e => ?_
  unfold sStand at e
  split at e
  · rename_i v
    split at e
    · rename_i n f rd hs1
      injection e with e; subst e
      refine ⟨sl_rd hs1, false, [.rs 1 n false (nI (W f))], rfl, fun hs => ?_⟩
      obtain ⟨h1, h2⟩ := hs _ List.mem_cons_self
      refine ⟨.cons _ _ _ _ (.slice _ _ _ _ _ hs1 (fun y hy => ⟨hy, by simp⟩) _ fun i hi => ⟨h1 i hi, (nI_flat _ i).has⟩) .nil, ?_⟩
      clear hs h1
      unfold maxLen at h2
      generalize W f = w
      refine evC_go0 (dec := []) (ks := [(0, 0), (0, 2)]) (s' := ⟨[(0, 0, Cont.cell (AV.rs 1 n false (nI w))), (0, 2, Cont.cell AV.nilm)], 9, 21⟩) (by kernel_rfl) (by kernel_rfl) ?_
      refine evC_go0 (dec := []) (ks := [(0, 0), (0, 2), (0, 3), (9, 0)]) (s' := ⟨[(0, 0, Cont.cell (AV.rs 1 n false (nI w))), (0, 2, Cont.cell AV.nilm), (0, 3, Cont.cell (AV.mp 9)), (9, 0, Cont.map 1 [])], 25, 21⟩) (by kernel_rfl) (by kernel_rfl) ?_
      refine evC_seq ?_
      refine evC_go0 (dec := []) (ks := [(0, 2), (0, 3), (0, 7), (0, 8), (0, 9), (9, 0)]) (s' := ⟨[(0, 2, Cont.cell AV.nilm), (0, 3, Cont.cell (AV.mp 9)), (0, 7, Cont.cell (AV.rs 1 n false (nI w))), (0, 8, Cont.cell (AV.int IntKind.i64 (↑n : Int))), (0, 9, Cont.cell (AV.int IntKind.i64 0)), (9, 0, Cont.map 1 [])], 49, 21⟩) (by kernel_rfl) (by kernel_rfl) ?_
      refine evC_block ?_
      refine evC_loop (ι := { i : Nat // i ≤ n }) (fun x => ⟨[(0, 2, Cont.cell AV.nilm), (0, 3, Cont.cell (AV.mp 1)), (0, 7, Cont.cell (AV.rs 1 n false (nI w))), (0, 8, Cont.cell (AV.int IntKind.i64 (↑n : Int))), (0, 9, .cell (.int .i64 (x.1 : Nat))), (1, 0, .map 1 (stE w x.1))], 2, 21⟩) (fun x => n - x.1) ⟨0, Nat.zero_le _⟩ (wk_go [9] rfl (by decide) rfl rfl ⟨⟨_, rfl, rfl⟩, ⟨_, rfl, rfl⟩, ⟨_, rfl, rfl⟩, ⟨_, rfl, rfl⟩, ⟨_, rfl, rfl⟩, ⟨_, rfl, cw_map .nil⟩, trivial⟩) ?_
      rintro ⟨i, hi⟩
      have hfl := stE_flat w i
      refine evC_go0 (dec := []) (ks := [(0, 2), (0, 3), (0, 7), (0, 8), (0, 9), (0, 10), (1, 0)]) (s' := ⟨[(0, 2, Cont.cell AV.nilm), (0, 3, Cont.cell (AV.mp 1)), (0, 7, Cont.cell (AV.rs 1 n false (nI w))), (0, 8, Cont.cell (AV.int IntKind.i64 (↑n : Int))), (0, 9, Cont.cell (AV.int IntKind.i64 (↑i : Int))), (0, 10, Cont.cell (AV.bool (decide ((↑i : Int) < (↑n : Int))))), (1, 0, Cont.map 1 (stE w i))], 10, 21⟩) (by kernel_rfl) (by kernel_rfl) ?_
      refine evC_seq ?_
      refine evC_if (q := decide ((↑i : Int) < (↑n : Int))) (by kernel_rfl) (fun hc => ?_) (fun hc => ?_)
      · have hlt : i < n := by have := of_decide_eq_true hc; omega
        clear hc
        refine evC_skip ?_
        refine then_normal ?_
        refine evC_seq ?_
        refine evC_block ?_
        refine evC_go (dec := []) (ks := [(0, 2), (0, 3), (0, 4), (0, 5), (0, 7), (0, 8), (0, 9), (1, 0)]) (ps := [(0 : Int) ≤ (↑i : Int), (↑i : Int) < (↑n : Int), (1 : Nat) = (1 : Nat)]) (s' := ⟨[(0, 2, Cont.cell AV.nilm), (0, 3, Cont.cell (AV.mp 1)), (0, 4, Cont.cell (AV.int IntKind.i64 (↑i : Int))), (0, 5, Cont.cell (AV.int IntKind.i64 (w i))), (0, 7, Cont.cell (AV.rs 1 n false (nI w))), (0, 8, Cont.cell (AV.int IntKind.i64 (↑n : Int))), (0, 9, Cont.cell (AV.int IntKind.i64 (↑i : Int))), (1, 0, Cont.map 1 (stE w i))], 50, 21⟩) (by kernel_rfl) (by kernel_rfl) ?_ ?_
        · (simp only [All]; (repeat' apply And.intro) <;> (try intro _) <;> (try intro _) <;> (repeat' apply And.intro) <;> (try intro _) <;> (try intro _) <;> first | trivial | assumption | exact .inr trivial | exact .inr rfl | omega | rfl | exact ⟨_, rfl, rfl⟩ | exact ⟨rfl, rfl⟩ | exact ⟨fun _ => rfl, fun _ => rfl⟩ | (unfold maxLen; omega) | (unfold i64R; first | omega | decide) | decide)
        refine evC_cutIn (ι := Unit) (fun _ => ⟨[(0, 2, Cont.cell AV.nilm), (0, 3, Cont.cell (AV.mp 1)), (0, 4, Cont.cell (AV.int IntKind.i64 (↑i : Int))), (0, 5, Cont.cell (AV.int IntKind.i64 (w i))), (0, 7, Cont.cell (AV.rs 1 n false (nI w))), (0, 8, Cont.cell (AV.int IntKind.i64 (↑n : Int))), (0, 9, Cont.cell (AV.int IntKind.i64 (↑i : Int))), (1, 0, .map 1 (stE w (i + 1)))], 2, 21⟩) ?_ ?_
        · refine evC_go0 (dec := []) (ks := [(0, 2), (0, 3), (0, 4), (0, 5), (0, 7), (0, 8), (0, 9), (0, 15), (1, 0)]) (s' := ⟨[(0, 2, Cont.cell AV.nilm), (0, 3, Cont.cell (AV.mp 1)), (0, 4, Cont.cell (AV.int IntKind.i64 (↑i : Int))), (0, 5, Cont.cell (AV.int IntKind.i64 (w i))), (0, 7, Cont.cell (AV.rs 1 n false (nI w))), (0, 8, Cont.cell (AV.int IntKind.i64 (↑n : Int))), (0, 9, Cont.cell (AV.int IntKind.i64 (↑i : Int))), (0, 15, Cont.cell (AV.bool (w i != -1))), (1, 0, Cont.map 1 (stE w i))], 66, 21⟩) (by kernel_rfl) (by kernel_rfl) ?_
          refine evC_if (q := w i != -1) (by kernel_rfl) (fun hc => ?_) (fun hc => ?_)
          · have hf : (w i != -1) = true := hc
            refine evC_goL0 (dec := []) (ks := [(0, 2), (0, 3), (0, 4), (0, 5), (0, 7), (0, 8), (0, 9), (1, 0)]) (s' := ⟨[(0, 2, Cont.cell AV.nilm), (0, 3, Cont.cell (AV.mp 1)), (0, 4, Cont.cell (AV.int IntKind.i64 (↑i : Int))), (0, 5, Cont.cell (AV.int IntKind.i64 (w i))), (0, 7, Cont.cell (AV.rs 1 n false (nI w))), (0, 8, Cont.cell (AV.int IntKind.i64 (↑n : Int))), (0, 9, Cont.cell (AV.int IntKind.i64 (↑i : Int))), (1, 0, Cont.map 1 (mput (stE w i) [w i] (AV.int IntKind.i64 (↑i : Int))))], 98, 21⟩) (by kernel_rfl) (by kernel_rfl) ?_
            refine cutB_normal (()) (wk_go [1] rfl (by decide) rfl rfl ⟨⟨_, rfl, rfl⟩, ⟨_, rfl, rfl⟩, ⟨_, rfl, rfl⟩, ⟨_, rfl, rfl⟩, ⟨_, rfl, rfl⟩, ⟨_, rfl, rfl⟩, ⟨_, rfl, rfl⟩, ⟨_, rfl, ?_⟩, trivial⟩)
            rw [stE_yes hf]
            exact cw_map (hfl.put (.int _ _))
          · have hf : (w i != -1) = false := hc
            refine evC_skip ?_
            refine cutB_normal (()) (wk_go [1] rfl (by decide) rfl rfl ⟨⟨_, rfl, rfl⟩, ⟨_, rfl, rfl⟩, ⟨_, rfl, rfl⟩, ⟨_, rfl, rfl⟩, ⟨_, rfl, rfl⟩, ⟨_, rfl, rfl⟩, ⟨_, rfl, rfl⟩, ⟨_, rfl, ?_⟩, trivial⟩)
            rw [stE_no hf]
            exact cw_map hfl
        intro _
        have hfl2 := stE_flat w (i + 1)
        refine evC_goL0 (dec := []) (ks := [(0, 2), (0, 3), (0, 7), (0, 8), (0, 9), (1, 0)]) (s' := ⟨[(0, 2, Cont.cell AV.nilm), (0, 3, Cont.cell (AV.mp 1)), (0, 7, Cont.cell (AV.rs 1 n false (nI w))), (0, 8, Cont.cell (AV.int IntKind.i64 (↑n : Int))), (0, 9, Cont.cell (AV.int IntKind.i64 (IntKind.i64.wrap ((↑i : Int) + 1)))), (1, 0, Cont.map 1 (stE w (i + 1)))], 18, 21⟩) (by kernel_rfl) (by kernel_rfl) ?_
        rw [wrap_add_one hlt (by omega)]
        refine round_normal (⟨i + 1, by omega⟩) (wk_go [1] rfl (by decide) rfl rfl ⟨⟨_, rfl, rfl⟩, ⟨_, rfl, rfl⟩, ⟨_, rfl, rfl⟩, ⟨_, rfl, rfl⟩, ⟨_, rfl, rfl⟩, ⟨_, rfl, cw_map (by assumption)⟩, trivial⟩) ?_
        show n - (i + 1) < n - i; omega
      · have hlt : i = n := by have := of_decide_eq_false hc; omega
        subst hlt
        refine evC_exit ?_
        refine then_exit ?_
        refine round_exit ?_
        refine block_exit ?_
        refine then_normal ?_
        refine evC_go0 (dec := []) (ks := [(0, 2), (1, 0)]) (s' := ⟨[(0, 2, Cont.cell (AV.mp 1)), (1, 0, Cont.map 1 (stE w i))], 26, 21⟩) (by kernel_rfl) (by kernel_rfl) ?_
        refine evC_ret ?_
        refine post_ret ?_
        refine ends_go [1] (AV.mp 1) [(1, 0, Cont.map 1 (stE w i))] rfl (by decide) rfl rfl (has_of _ rfl) rfl ⟨⟨_, rfl, cw_map (by assumption)⟩, trivial⟩ ⟨⟨1, _, rfl, rfl, rfl, cf_map (by assumption)⟩, trivial⟩ (kept_nil _)
    · cases e
  · cases e

/-! What may be. -/
def argOK (c : Int) (no nw nx : Nat) : Bool := decide (1 ≤ c) && decide (c ≤ 4096) && ((no : Int) == c) && decide (nw ≤ 64) && (nx == nw)
def rngOK (c : Int) (w x : Nat → Int) (i : Nat) : Bool := decide (-1 ≤ w i) && decide (w i < c) && decide (-1 ≤ x i) && decide (x i < c)
def dupN (w : Nat → Int) (k : Nat) : Bool := (List.range k).any fun i => decide (0 ≤ w i) && (List.range i).any fun j => w j == w i
def chkF (c : Int) (no nw nx : Nat) (w x : Nat → Int) : Int := bif argOK c no nw nx then (bif (List.range nw).all (rngOK c w x) then (bif dupN w nw then 5 else 0) else 4) else 1
theorem dup_succ (w : Nat → Int) (k : Nat) : dupN w (k + 1) = (dupN w k || (decide (0 ≤ w k) && (List.range k).any fun j => w j == w k)) := by
  unfold dupN
  rw [List.range_succ, List.any_append]
  simp
theorem arg_eq (c : Int) (no nw nx : Nat) : (bif bif bif bif decide (c < 1) then true else decide (c > 4096) then true else ((no : Int) != c) then true else decide ((nw : Int) > 64) then true else ((nx : Int) != (nw : Int))) = !argOK c no nw nx := by
  simp only [cond_or, argOK]
  rw [Bool.eq_iff_iff]
  simp only [Bool.or_eq_true, Bool.and_eq_true, Bool.not_eq_true', decide_eq_true_eq, bne_iff_ne, ne_eq, Bool.and_eq_false_iff, decide_eq_false_iff_not, beq_eq_false_iff_ne]
  omega
theorem rng_eq (c a b : Int) : (bif bif bif decide (a < -1) then true else decide (a ≥ c) then true else decide (b < -1) then true else decide (b ≥ c)) = !(decide (-1 ≤ a) && decide (a < c) && decide (-1 ≤ b) && decide (b < c)) := by
  simp only [cond_or]
  rw [Bool.eq_iff_iff]
  simp only [Bool.or_eq_true, Bool.and_eq_true, Bool.not_eq_true', decide_eq_true_eq, bne_iff_ne, ne_eq, Bool.and_eq_false_iff, decide_eq_false_iff_not, beq_eq_false_iff_ne]
  omega
theorem has_iff (w : Nat → Int) (k : Nat) (c : Int) : ((mget (stE w k) [c]).isSome = true) ↔ c ≠ -1 ∧ ∃ j, j < k ∧ w j = c := by
  induction k with
  | zero => simp [stE, mget]
  | succ k ih =>
    cases h : (w k != -1) with
    | true =>
      rw [stE_yes h, mget_put]
      by_cases e : c = w k
      · subst e
        simp only [if_true, Option.isSome_some, true_iff]
        exact ⟨by simpa using h, k, by omega, rfl⟩
      · have e2 : ¬ [c] = [w k] := by simpa using e
        rw [if_neg e2, ih]
        constructor
        · rintro ⟨h1, j, hj, h2⟩; exact ⟨h1, j, by omega, h2⟩
        · rintro ⟨h1, j, hj, h2⟩
          refine ⟨h1, j, ?_, h2⟩
          rcases Nat.lt_or_ge j k with h3 | h3
          · exact h3
          · have : j = k := by omega
            subst this; exact absurd h2.symm e
    | false =>
      rw [stE_no h, ih]
      have hk : w k = -1 := by simpa using h
      constructor
      · rintro ⟨h1, j, hj, h2⟩; exact ⟨h1, j, by omega, h2⟩
      · rintro ⟨h1, j, hj, h2⟩
        refine ⟨h1, j, ?_, h2⟩
        rcases Nat.lt_or_ge j k with h3 | h3
        · exact h3
        · have : j = k := by omega
          subst this; exact absurd (h2.symm.trans hk) h1
theorem len_dup (w : Nat → Int) (k : Nat) (hw : ∀ i, i < k → -1 ≤ w i) : (stE w k).length ≤ cntN w k ∧ ((stE w k).length < cntN w k ↔ dupN w k = true) := by
  induction k with
  | zero => simp [stE, cntN, dupN]
  | succ k ih =>
    obtain ⟨h1, h2⟩ := ih fun i hi => hw i (by omega)
    rw [dup_succ]
    have hk := hw k (by omega)
    cases h : (w k != -1) with
    | true =>
      have hne : w k ≠ -1 := by simpa using h
      have h0 : decide (0 ≤ w k) = true := by simp; omega
      rw [stE_yes h, length_put]
      have hc : cntN w (k + 1) = cntN w k + 1 := by simp only [cntN]; rw [h]; rfl
      rw [hc, h0, Bool.true_and]
      have hany : ((List.range k).any fun j => w j == w k) = (mget (stE w k) [w k]).isSome := by
        rw [Bool.eq_iff_iff, has_iff]
        simp only [List.any_eq_true, List.mem_range, beq_iff_eq]
        exact ⟨fun ⟨j, a, b⟩ => ⟨hne, j, a, b⟩, fun ⟨_, j, a, b⟩ => ⟨j, a, b⟩⟩
      rw [hany]
      cases (mget (stE w k) [w k]).isSome with
      | true => simp; omega
      | false =>
        simp only [cond_false, Bool.or_false]
        constructor
        · omega
        · rw [← h2]; omega
    | false =>
      have hne : w k = -1 := by simpa using h
      have h0 : decide (0 ≤ w k) = false := by simp; omega
      have hc : cntN w (k + 1) = cntN w k := by simp only [cntN]; rw [h]; rfl
      rw [stE_no h, hc, h0, Bool.false_and, Bool.or_false]
      exact ⟨h1, h2⟩

def sCheck : Spec := fun args hr _ => match args with
  | [.int .i64 c, o, v, u] => match sl 1 hr o, sl 1 hr v, sl 1 hr u with
    | some (no, g, rg), some (n, f, rd), some (m, f2, rd2) => some ⟨[(∀ i, i < no → g i = nB (G g) i) ∧ (∀ i, i < n → f i = nI (W f) i) ∧ (∀ i, i < m → f2 i = nI (W f2) i) ∧ no ≤ maxLen ∧ n ≤ maxLen ∧ m ≤ maxLen], .int .i64 (chkF c no n m (W f) (W f2)), rg ++ (rd ++ rd2), []⟩
    | _, _, _ => none
  | _ => none
theorem check_ok : SpecOK Try.prog 9 sCheck := by
  refine spec_own (by kernel_rfl) T_ok (sget_cons stand_ok (sget_cons count_ok sget_nil)) Try.func9 rfl rfl fun args hr nb out e => ?_
  unfold sCheck at e
  split at e
  · rename_i c o v u
    split at e
    · rename_i no g rg n f rd m f2 rd2 hs0 hs1 hs2
      injection e with e; subst e
      refine ⟨fun x hx => (List.mem_append.1 hx).elim (sl_rd hs0 x) fun hx => (List.mem_append.1 hx).elim (sl_rd hs1 x) (sl_rd hs2 x), false, [.int .i64 c, .rs 1 no false (nB (G g)), .rs 1 n false (nI (W f)), .rs 1 m false (nI (W f2))], rfl, fun hs => ?_⟩
      obtain ⟨h0, h1, h2, h3, h4, h5⟩ := hs _ List.mem_cons_self
      refine ⟨.cons _ _ _ _ (.same _ _ (.int _ _)) (.cons _ _ _ _ (.slice _ _ _ _ _ hs0 (fun y hy => ⟨List.mem_append_left _ hy, by simp⟩) _ fun i hi => ⟨h0 i hi, (nB_flat _ i).has⟩)
        (.cons _ _ _ _ (.slice _ _ _ _ _ hs1 (fun y hy => ⟨List.mem_append_right _ (List.mem_append_left _ hy), by simp⟩) _ fun i hi => ⟨h1 i hi, (nI_flat _ i).has⟩)
        (.cons _ _ _ _ (.slice _ _ _ _ _ hs2 (fun y hy => ⟨List.mem_append_right _ (List.mem_append_right _ hy), by simp⟩) _ fun i hi => ⟨h2 i hi, (nI_flat _ i).has⟩) .nil))), ?_⟩
      clear hs h0 h1 h2
      unfold maxLen at h3 h4 h5
      generalize W f = w
      generalize W f2 = x
      generalize G g = q
      refine evC_go0 (dec := []) (ks := [(0, 0), (0, 1), (0, 2), (0, 3), (0, 8)]) (s' := ⟨[(0, 0, Cont.cell (AV.int IntKind.i64 c)), (0, 1, Cont.cell (AV.rs 1 no false (nB q))), (0, 2, Cont.cell (AV.rs 1 n false (nI w))), (0, 3, Cont.cell (AV.rs 1 m false (nI x))), (0, 8, Cont.cell (AV.int IntKind.i64 0))], 9, 76⟩) (by kernel_rfl) (by kernel_rfl) ?_
      refine evC_seq ?_
      refine evC_go0 (dec := []) (ks := [(0, 0), (0, 2), (0, 3), (0, 8), (0, 34)]) (s' := ⟨[(0, 0, Cont.cell (AV.int IntKind.i64 c)), (0, 2, Cont.cell (AV.rs 1 n false (nI w))), (0, 3, Cont.cell (AV.rs 1 m false (nI x))), (0, 8, Cont.cell (AV.int IntKind.i64 0)), (0, 34, Cont.cell (AV.bool (bif bif bif bif decide (c < 1) then true else decide (c > 4096) then true else (↑no : Int) != c then true else decide ((↑n : Int) > 64) then true else (↑m : Int) != (↑n : Int))))], 201, 76⟩) (by kernel_rfl) (by kernel_rfl) ?_
      refine evC_if (q := bif bif bif bif decide (c < 1) then true else decide (c > 4096) then true else (↑no : Int) != c then true else decide ((↑n : Int) > 64) then true else (↑m : Int) != (↑n : Int)) (by kernel_rfl) (fun hc => ?_) (fun hc => ?_)
      · rw [arg_eq] at hc
        have ha : argOK c no n m = false := (Bool.not_eq_true' _).mp hc
        refine evC_go0 (dec := []) (ks := [(0, 0), (0, 2), (0, 3), (0, 8)]) (s' := ⟨[(0, 0, Cont.cell (AV.int IntKind.i64 c)), (0, 2, Cont.cell (AV.rs 1 n false (nI w))), (0, 3, Cont.cell (AV.rs 1 m false (nI x))), (0, 8, Cont.cell (AV.int IntKind.i64 1))], 209, 76⟩) (by kernel_rfl) (by kernel_rfl) ?_
        refine evC_ret ?_
        refine then_ret ?_
        refine post_ret ?_
        refine ends_flat (vs := [AV.int IntKind.i64 1]) (Nat.zero_lt_succ _) (by kernel_rfl) (flat_of _ (by kernel_rfl)) rfl ?_
        unfold chkF; rw [ha]; rfl
      · rw [arg_eq] at hc
        have ha : argOK c no n m = true := (Bool.not_eq_false' _).mp hc
        have ha2 : 1 ≤ c ∧ c ≤ 4096 ∧ (no : Int) = c ∧ n ≤ 64 ∧ m = n := by
          simp only [argOK, Bool.and_eq_true, decide_eq_true_eq, beq_iff_eq] at ha
          omega
        clear hc
        refine evC_skip ?_
        refine then_normal ?_
        refine evC_seq ?_
        refine evC_go0 (dec := []) (ks := [(0, 0), (0, 2), (0, 3), (0, 8), (0, 36), (0, 37)]) (s' := ⟨[(0, 0, Cont.cell (AV.int IntKind.i64 c)), (0, 2, Cont.cell (AV.rs 1 n false (nI w))), (0, 3, Cont.cell (AV.rs 1 m false (nI x))), (0, 8, Cont.cell (AV.int IntKind.i64 0)), (0, 36, Cont.cell (AV.int IntKind.i64 (↑n : Int))), (0, 37, Cont.cell (AV.int IntKind.i64 0))], 225, 76⟩) (by kernel_rfl) (by kernel_rfl) ?_
        refine evC_block ?_
        refine evC_loop (ι := { i : Nat // i ≤ n ∧ ∀ j, j < i → rngOK c w x j = true }) (fun y => ⟨[(0, 0, Cont.cell (AV.int IntKind.i64 c)), (0, 2, Cont.cell (AV.rs 1 n false (nI w))), (0, 3, Cont.cell (AV.rs 1 m false (nI x))), (0, 8, Cont.cell (AV.int IntKind.i64 0)), (0, 36, Cont.cell (AV.int IntKind.i64 (↑n : Int))), (0, 37, .cell (.int .i64 (y.1 : Nat)))], 1, 76⟩) (fun y => n - y.1) ⟨0, Nat.zero_le _, fun j hj => absurd hj (Nat.not_lt_zero j)⟩ (wk_go [] rfl (by decide) rfl rfl ⟨⟨_, rfl, rfl⟩, ⟨_, rfl, rfl⟩, ⟨_, rfl, rfl⟩, ⟨_, rfl, rfl⟩, ⟨_, rfl, rfl⟩, ⟨_, rfl, rfl⟩, trivial⟩) ?_
        rintro ⟨i, hi, hj⟩
        refine evC_go0 (dec := []) (ks := [(0, 0), (0, 2), (0, 3), (0, 8), (0, 36), (0, 37), (0, 38)]) (s' := ⟨[(0, 0, Cont.cell (AV.int IntKind.i64 c)), (0, 2, Cont.cell (AV.rs 1 n false (nI w))), (0, 3, Cont.cell (AV.rs 1 m false (nI x))), (0, 8, Cont.cell (AV.int IntKind.i64 0)), (0, 36, Cont.cell (AV.int IntKind.i64 (↑n : Int))), (0, 37, Cont.cell (AV.int IntKind.i64 (↑i : Int))), (0, 38, Cont.cell (AV.bool (decide ((↑i : Int) < (↑n : Int)))))], 9, 76⟩) (by kernel_rfl) (by kernel_rfl) ?_
        refine evC_seq ?_
        refine evC_if (q := decide ((↑i : Int) < (↑n : Int))) (by kernel_rfl) (fun hc => ?_) (fun hc => ?_)
        · have hlt : i < n := by have := of_decide_eq_true hc; omega
          clear hc
          refine evC_skip ?_
          refine then_normal ?_
          refine evC_seq ?_
          refine evC_block ?_
          refine evC_go0 (dec := []) (ks := [(0, 0), (0, 2), (0, 3), (0, 8), (0, 9), (0, 36), (0, 37)]) (s' := ⟨[(0, 0, Cont.cell (AV.int IntKind.i64 c)), (0, 2, Cont.cell (AV.rs 1 n false (nI w))), (0, 3, Cont.cell (AV.rs 1 m false (nI x))), (0, 8, Cont.cell (AV.int IntKind.i64 0)), (0, 9, Cont.cell (AV.int IntKind.i64 (↑i : Int))), (0, 36, Cont.cell (AV.int IntKind.i64 (↑n : Int))), (0, 37, Cont.cell (AV.int IntKind.i64 (↑i : Int)))], 25, 76⟩) (by kernel_rfl) (by kernel_rfl) ?_
          refine evC_go (dec := []) (ks := [(0, 0), (0, 2), (0, 3), (0, 8), (0, 36), (0, 37), (0, 67)]) (ps := [(0 : Int) ≤ (↑i : Int), (↑i : Int) < (↑n : Int), (1 : Nat) = (1 : Nat), List.all [!decide (w i < (-1 : Int))] id = true → (0 : Int) ≤ (↑i : Int), List.all [!decide (w i < (-1 : Int))] id = true → (↑i : Int) < (↑n : Int), List.all [!decide (w i < (-1 : Int))] id = true → (1 : Nat) = (1 : Nat), List.all [!bif decide (w i < (-1 : Int)) then true else decide (w i ≥ c)] id = true → (0 : Int) ≤ (↑i : Int), List.all [!bif decide (w i < (-1 : Int)) then true else decide (w i ≥ c)] id = true → (↑i : Int) < (↑m : Int), List.all [!bif decide (w i < (-1 : Int)) then true else decide (w i ≥ c)] id = true → (1 : Nat) = (1 : Nat), List.all [!bif bif decide (w i < (-1 : Int)) then true else decide (w i ≥ c) then true else decide (x i < (-1 : Int))] id = true → (0 : Int) ≤ (↑i : Int), List.all [!bif bif decide (w i < (-1 : Int)) then true else decide (w i ≥ c) then true else decide (x i < (-1 : Int))] id = true → (↑i : Int) < (↑m : Int), List.all [!bif bif decide (w i < (-1 : Int)) then true else decide (w i ≥ c) then true else decide (x i < (-1 : Int))] id = true → (1 : Nat) = (1 : Nat)]) (s' := ⟨[(0, 0, Cont.cell (AV.int IntKind.i64 c)), (0, 2, Cont.cell (AV.rs 1 n false (nI w))), (0, 3, Cont.cell (AV.rs 1 m false (nI x))), (0, 8, Cont.cell (AV.int IntKind.i64 0)), (0, 36, Cont.cell (AV.int IntKind.i64 (↑n : Int))), (0, 37, Cont.cell (AV.int IntKind.i64 (↑i : Int))), (0, 67, Cont.cell (AV.bool (bif bif bif decide (w i < -1) then true else decide (w i ≥ c) then true else decide (x i < -1) then true else decide (x i ≥ c))))], 249, 76⟩) (by kernel_rfl) (by kernel_rfl) ?_ ?_
          · (simp only [All]; (repeat' apply And.intro) <;> (try intro _) <;> (try intro _) <;> (repeat' apply And.intro) <;> (try intro _) <;> (try intro _) <;> first | trivial | assumption | exact .inr trivial | exact .inr rfl | omega | rfl | exact ⟨_, rfl, rfl⟩ | exact ⟨rfl, rfl⟩ | exact ⟨fun _ => rfl, fun _ => rfl⟩ | (unfold maxLen; omega) | (unfold i64R; first | omega | decide) | decide)
          rw [rng_eq]
          refine evC_if (q := !(decide (-1 ≤ w i) && decide (w i < c) && decide (-1 ≤ x i) && decide (x i < c))) (by kernel_rfl) (fun hc => ?_) (fun hc => ?_)
          · have hr : rngOK c w x i = false := (Bool.not_eq_true' _).mp hc
            refine evC_go0 (dec := []) (ks := [(0, 0), (0, 2), (0, 3), (0, 8), (0, 36), (0, 37)]) (s' := ⟨[(0, 0, Cont.cell (AV.int IntKind.i64 c)), (0, 2, Cont.cell (AV.rs 1 n false (nI w))), (0, 3, Cont.cell (AV.rs 1 m false (nI x))), (0, 8, Cont.cell (AV.int IntKind.i64 4)), (0, 36, Cont.cell (AV.int IntKind.i64 (↑n : Int))), (0, 37, Cont.cell (AV.int IntKind.i64 (↑i : Int)))], 257, 76⟩) (by kernel_rfl) (by kernel_rfl) ?_
            refine evC_ret ?_
            refine block_ret ?_
            refine then_ret ?_
            refine round_ret ?_
            refine block_ret ?_
            refine then_ret ?_
            refine post_ret ?_
            refine ends_flat (vs := [AV.int IntKind.i64 4]) (Nat.zero_lt_succ _) (by kernel_rfl) (flat_of _ (by kernel_rfl)) rfl ?_
            have e1 : (List.range n).all (rngOK c w x) = false := all_false hlt hr
            unfold chkF; rw [ha, e1]; rfl
          · have hr : rngOK c w x i = true := (Bool.not_eq_false' _).mp hc
            refine evC_skip ?_
            refine block_normal ?_
            refine then_normal ?_
            refine evC_goL0 (dec := []) (ks := [(0, 0), (0, 2), (0, 3), (0, 8), (0, 36), (0, 37)]) (s' := ⟨[(0, 0, Cont.cell (AV.int IntKind.i64 c)), (0, 2, Cont.cell (AV.rs 1 n false (nI w))), (0, 3, Cont.cell (AV.rs 1 m false (nI x))), (0, 8, Cont.cell (AV.int IntKind.i64 0)), (0, 36, Cont.cell (AV.int IntKind.i64 (↑n : Int))), (0, 37, Cont.cell (AV.int IntKind.i64 (IntKind.i64.wrap ((↑i : Int) + 1))))], 265, 76⟩) (by kernel_rfl) (by kernel_rfl) ?_
            rw [wrap_add_one hlt (by omega)]
            refine round_normal (⟨i + 1, by omega, fun j hj' => ?_⟩) (wk_go [] rfl (by decide) rfl rfl ⟨⟨_, rfl, rfl⟩, ⟨_, rfl, rfl⟩, ⟨_, rfl, rfl⟩, ⟨_, rfl, rfl⟩, ⟨_, rfl, rfl⟩, ⟨_, rfl, rfl⟩, trivial⟩) ?_
            · rcases Nat.lt_or_ge j i with h | h
              · exact hj j h
              · have : j = i := by omega
                subst this; exact hr
            · show n - (i + 1) < n - i; omega
        · have hlt : i = n := by have := of_decide_eq_false hc; omega
          subst hlt
          have e1 : (List.range i).all (rngOK c w x) = true := all_true hj
          have hld := len_dup w i fun j hj' => by
            have := hj j hj'
            simp only [rngOK, Bool.and_eq_true, decide_eq_true_eq] at this
            exact this.1.1.1
          clear hc
          have hfl := stE_flat w i
          refine evC_exit ?_
          refine then_exit ?_
          refine round_exit ?_
          refine block_exit ?_
          refine then_normal ?_
          refine evC_seq ?_
          refine evC_go (dec := []) (ks := [(0, 2), (0, 8), (0, 10), (17, 0)]) (ps := [(∀ (i_1 : Nat), i_1 < i → nI w i_1 = nI (W (nI w)) i_1) ∧ i ≤ maxLen]) (s' := ⟨[(0, 2, Cont.cell (AV.rs 1 i false (nI w))), (0, 8, Cont.cell (AV.int IntKind.i64 0)), (0, 10, Cont.cell (AV.mp 17)), (17, 0, Cont.map 1 (stE (W (nI w)) i))], 33, 76⟩) (by kernel_rfl) (by kernel_rfl) ?_ ?_
          · (simp only [All]; (repeat' apply And.intro) <;> (try intro _) <;> (try intro _) <;> (repeat' apply And.intro) <;> (try intro _) <;> (try intro _) <;> first | trivial | assumption | exact .inr trivial | exact .inr rfl | omega | rfl | exact ⟨_, rfl, rfl⟩ | exact ⟨rfl, rfl⟩ | exact ⟨fun _ => rfl, fun _ => rfl⟩ | (unfold maxLen; omega) | (unfold i64R; first | omega | decide) | decide)
          refine evC_go (dec := []) (ks := [(0, 8), (0, 75)]) (ps := [(∀ (i_1 : Nat), i_1 < i → nI w i_1 = nI (W (nI w)) i_1) ∧ i ≤ maxLen]) (s' := ⟨[(0, 8, Cont.cell (AV.int IntKind.i64 0)), (0, 75, Cont.cell (AV.bool (decide ((↑(List.length (stE (W (nI w)) i)) : Int) < (↑(cntN (W (nI w)) i) : Int)))))], 73, 76⟩) (by kernel_rfl) (by kernel_rfl) ?_ ?_
          · (simp only [All]; (repeat' apply And.intro) <;> (try intro _) <;> (try intro _) <;> (repeat' apply And.intro) <;> (try intro _) <;> (try intro _) <;> first | trivial | assumption | exact .inr trivial | exact .inr rfl | omega | rfl | exact ⟨_, rfl, rfl⟩ | exact ⟨rfl, rfl⟩ | exact ⟨fun _ => rfl, fun _ => rfl⟩ | (unfold maxLen; omega) | (unfold i64R; first | omega | decide) | decide)
          refine evC_if (q := decide ((↑(List.length (stE (W (nI w)) i)) : Int) < (↑(cntN (W (nI w)) i) : Int))) (by kernel_rfl) (fun hc => ?_) (fun hc => ?_)
          · have hd : dupN w i = true := hld.2.1 (by have := of_decide_eq_true hc; exact Int.ofNat_lt.1 this)
            refine evC_go0 (dec := []) (ks := [(0, 8)]) (s' := ⟨[(0, 8, Cont.cell (AV.int IntKind.i64 5))], 81, 76⟩) (by kernel_rfl) (by kernel_rfl) ?_
            refine evC_ret ?_
            refine then_ret ?_
            refine post_ret ?_
            refine ends_flat (vs := [AV.int IntKind.i64 5]) (Nat.zero_lt_succ _) (by kernel_rfl) (flat_of _ (by kernel_rfl)) rfl ?_
            unfold chkF; rw [ha, e1, hd]; rfl
          · have hd : dupN w i = false := by
              cases hd : dupN w i with
              | false => rfl
              | true => exact absurd (Int.ofNat_lt.2 (hld.2.2 hd)) (of_decide_eq_false hc)
            refine evC_skip ?_
            refine then_normal ?_
            refine evC_go0 (dec := []) (ks := [(0, 8)]) (s' := ⟨[(0, 8, Cont.cell (AV.int IntKind.i64 0))], 81, 76⟩) (by kernel_rfl) (by kernel_rfl) ?_
            refine evC_ret ?_
            refine post_ret ?_
            refine ends_flat (vs := [AV.int IntKind.i64 0]) (Nat.zero_lt_succ _) (by kernel_rfl) (flat_of _ (by kernel_rfl)) rfl ?_
            unfold chkF; rw [ha, e1, hd]; rfl
    · cases e
  · cases e

theorem on_dup {w : Nat → Int} {n i : Nat} (hi : i < n) : (onF w n (w i) != (i : Int)) = (List.range i).any fun j => w j == w i := by
  unfold onF
  rcases fst_spec (fun j => w j == w i) n with ⟨h1, h2⟩ | ⟨h1, h2, h3⟩
  · have := h2 i hi; simp at this
  · have hb : Nat.blt (fstN (fun j => w j == w i) n) n = true := by simpa [Nat.blt_eq] using h1
    rw [hb, cond_true]
    generalize fstN (fun j => w j == w i) n = q at *
    rw [Bool.eq_iff_iff]
    simp only [bne_iff_ne, ne_eq, List.any_eq_true, List.mem_range]
    constructor
    · intro hne
      refine ⟨q, ?_, h2⟩
      rcases Nat.lt_or_ge q i with h | h
      · exact h
      · exfalso
        rcases Nat.lt_or_ge i q with h4 | h4
        · have := h3 i h4; simp at this
        · have : q = i := by omega
          subst this; exact hne rfl
    · rintro ⟨j, hj, h4⟩ he
      have : q = i := by omega
      subst this
      have := h3 j hj
      rw [this] at h4; cases h4
theorem refCheck_ok : SpecOK Try.prog 10 sCheck := by
  refine spec_own (by kernel_rfl) T_ok (sget_cons on_ok sget_nil) Try.func10 rfl rfl fun args hr nb out e => ?_
  unfold sCheck at e
  split at e
  · rename_i c o v u
    split at e
    · rename_i no g rg n f rd m f2 rd2 hs0 hs1 hs2
      injection e with e; subst e
      refine ⟨fun x hx => (List.mem_append.1 hx).elim (sl_rd hs0 x) fun hx => (List.mem_append.1 hx).elim (sl_rd hs1 x) (sl_rd hs2 x), false, [.int .i64 c, .rs 1 no false (nB (G g)), .rs 1 n false (nI (W f)), .rs 1 m false (nI (W f2))], rfl, fun hs => ?_⟩
      obtain ⟨h0, h1, h2, h3, h4, h5⟩ := hs _ List.mem_cons_self
      refine ⟨.cons _ _ _ _ (.same _ _ (.int _ _)) (.cons _ _ _ _ (.slice _ _ _ _ _ hs0 (fun y hy => ⟨List.mem_append_left _ hy, by simp⟩) _ fun i hi => ⟨h0 i hi, (nB_flat _ i).has⟩)
        (.cons _ _ _ _ (.slice _ _ _ _ _ hs1 (fun y hy => ⟨List.mem_append_right _ (List.mem_append_left _ hy), by simp⟩) _ fun i hi => ⟨h1 i hi, (nI_flat _ i).has⟩)
        (.cons _ _ _ _ (.slice _ _ _ _ _ hs2 (fun y hy => ⟨List.mem_append_right _ (List.mem_append_right _ hy), by simp⟩) _ fun i hi => ⟨h2 i hi, (nI_flat _ i).has⟩) .nil))), ?_⟩
      clear hs h0 h1 h2
      unfold maxLen at h3 h4 h5
      generalize W f = w
      generalize W f2 = x
      generalize G g = q
      refine evC_go0 (dec := []) (ks := [(0, 0), (0, 1), (0, 2), (0, 3), (0, 8)]) (s' := ⟨[(0, 0, Cont.cell (AV.int IntKind.i64 c)), (0, 1, Cont.cell (AV.rs 1 no false (nB q))), (0, 2, Cont.cell (AV.rs 1 n false (nI w))), (0, 3, Cont.cell (AV.rs 1 m false (nI x))), (0, 8, Cont.cell (AV.int IntKind.i64 0))], 9, 90⟩) (by kernel_rfl) (by kernel_rfl) ?_
      refine evC_seq ?_
      refine evC_go0 (dec := []) (ks := [(0, 0), (0, 2), (0, 3), (0, 8), (0, 34)]) (s' := ⟨[(0, 0, Cont.cell (AV.int IntKind.i64 c)), (0, 2, Cont.cell (AV.rs 1 n false (nI w))), (0, 3, Cont.cell (AV.rs 1 m false (nI x))), (0, 8, Cont.cell (AV.int IntKind.i64 0)), (0, 34, Cont.cell (AV.bool (bif bif bif bif decide (c < 1) then true else decide (c > 4096) then true else (↑no : Int) != c then true else decide ((↑n : Int) > 64) then true else (↑m : Int) != (↑n : Int))))], 201, 90⟩) (by kernel_rfl) (by kernel_rfl) ?_
      refine evC_if (q := bif bif bif bif decide (c < 1) then true else decide (c > 4096) then true else (↑no : Int) != c then true else decide ((↑n : Int) > 64) then true else (↑m : Int) != (↑n : Int)) (by kernel_rfl) (fun hc => ?_) (fun hc => ?_)
      · rw [arg_eq] at hc
        have ha : argOK c no n m = false := (Bool.not_eq_true' _).mp hc
        refine evC_go0 (dec := []) (ks := [(0, 0), (0, 2), (0, 3), (0, 8)]) (s' := ⟨[(0, 0, Cont.cell (AV.int IntKind.i64 c)), (0, 2, Cont.cell (AV.rs 1 n false (nI w))), (0, 3, Cont.cell (AV.rs 1 m false (nI x))), (0, 8, Cont.cell (AV.int IntKind.i64 1))], 209, 90⟩) (by kernel_rfl) (by kernel_rfl) ?_
        refine evC_ret ?_
        refine then_ret ?_
        refine post_ret ?_
        refine ends_flat (vs := [AV.int IntKind.i64 1]) (Nat.zero_lt_succ _) (by kernel_rfl) (flat_of _ (by kernel_rfl)) rfl ?_
        unfold chkF; rw [ha]; rfl
      · rw [arg_eq] at hc
        have ha : argOK c no n m = true := (Bool.not_eq_false' _).mp hc
        have ha2 : 1 ≤ c ∧ c ≤ 4096 ∧ (no : Int) = c ∧ n ≤ 64 ∧ m = n := by
          simp only [argOK, Bool.and_eq_true, decide_eq_true_eq, beq_iff_eq] at ha
          omega
        clear hc
        refine evC_skip ?_
        refine then_normal ?_
        refine evC_seq ?_
        refine evC_go0 (dec := []) (ks := [(0, 0), (0, 2), (0, 3), (0, 8), (0, 9)]) (s' := ⟨[(0, 0, Cont.cell (AV.int IntKind.i64 c)), (0, 2, Cont.cell (AV.rs 1 n false (nI w))), (0, 3, Cont.cell (AV.rs 1 m false (nI x))), (0, 8, Cont.cell (AV.int IntKind.i64 0)), (0, 9, Cont.cell (AV.int IntKind.i64 0))], 209, 90⟩) (by kernel_rfl) (by kernel_rfl) ?_
        refine evC_block ?_
        refine evC_loop (ι := { i : Nat // i ≤ n ∧ ∀ j, j < i → rngOK c w x j = true }) (fun y => ⟨[(0, 0, Cont.cell (AV.int IntKind.i64 c)), (0, 2, Cont.cell (AV.rs 1 n false (nI w))), (0, 3, Cont.cell (AV.rs 1 m false (nI x))), (0, 8, Cont.cell (AV.int IntKind.i64 0)), (0, 9, .cell (.int .i64 (y.1 : Nat)))], 1, 90⟩) (fun y => n - y.1) ⟨0, Nat.zero_le _, fun j hj => absurd hj (Nat.not_lt_zero j)⟩ (wk_go [] rfl (by decide) rfl rfl ⟨⟨_, rfl, rfl⟩, ⟨_, rfl, rfl⟩, ⟨_, rfl, rfl⟩, ⟨_, rfl, rfl⟩, ⟨_, rfl, rfl⟩, trivial⟩) ?_
        rintro ⟨i, hi, hj⟩
        refine evC_seq ?_
        refine evC_go0 (dec := []) (ks := [(0, 0), (0, 2), (0, 3), (0, 8), (0, 9), (0, 38)]) (s' := ⟨[(0, 0, Cont.cell (AV.int IntKind.i64 c)), (0, 2, Cont.cell (AV.rs 1 n false (nI w))), (0, 3, Cont.cell (AV.rs 1 m false (nI x))), (0, 8, Cont.cell (AV.int IntKind.i64 0)), (0, 9, Cont.cell (AV.int IntKind.i64 (↑i : Int))), (0, 38, Cont.cell (AV.bool (decide ((↑i : Int) < (↑n : Int)))))], 33, 90⟩) (by kernel_rfl) (by kernel_rfl) ?_
        refine evC_if (q := decide ((↑i : Int) < (↑n : Int))) (by kernel_rfl) (fun hc => ?_) (fun hc => ?_)
        · have hlt : i < n := by have := of_decide_eq_true hc; omega
          clear hc
          refine evC_skip ?_
          refine then_normal ?_
          refine evC_seq ?_
          refine evC_block ?_
          refine evC_go (dec := []) (ks := [(0, 0), (0, 2), (0, 3), (0, 8), (0, 9), (0, 68)]) (ps := [(0 : Int) ≤ (↑i : Int), (↑i : Int) < (↑n : Int), (1 : Nat) = (1 : Nat), List.all [!decide (w i < (-1 : Int))] id = true → (0 : Int) ≤ (↑i : Int), List.all [!decide (w i < (-1 : Int))] id = true → (↑i : Int) < (↑n : Int), List.all [!decide (w i < (-1 : Int))] id = true → (1 : Nat) = (1 : Nat), List.all [!bif decide (w i < (-1 : Int)) then true else decide (w i ≥ c)] id = true → (0 : Int) ≤ (↑i : Int), List.all [!bif decide (w i < (-1 : Int)) then true else decide (w i ≥ c)] id = true → (↑i : Int) < (↑m : Int), List.all [!bif decide (w i < (-1 : Int)) then true else decide (w i ≥ c)] id = true → (1 : Nat) = (1 : Nat), List.all [!bif bif decide (w i < (-1 : Int)) then true else decide (w i ≥ c) then true else decide (x i < (-1 : Int))] id = true → (0 : Int) ≤ (↑i : Int), List.all [!bif bif decide (w i < (-1 : Int)) then true else decide (w i ≥ c) then true else decide (x i < (-1 : Int))] id = true → (↑i : Int) < (↑m : Int), List.all [!bif bif decide (w i < (-1 : Int)) then true else decide (w i ≥ c) then true else decide (x i < (-1 : Int))] id = true → (1 : Nat) = (1 : Nat)]) (s' := ⟨[(0, 0, Cont.cell (AV.int IntKind.i64 c)), (0, 2, Cont.cell (AV.rs 1 n false (nI w))), (0, 3, Cont.cell (AV.rs 1 m false (nI x))), (0, 8, Cont.cell (AV.int IntKind.i64 0)), (0, 9, Cont.cell (AV.int IntKind.i64 (↑i : Int))), (0, 68, Cont.cell (AV.bool (bif bif bif decide (w i < -1) then true else decide (w i ≥ c) then true else decide (x i < -1) then true else decide (x i ≥ c))))], 257, 90⟩) (by kernel_rfl) (by kernel_rfl) ?_ ?_
          · (simp only [All]; (repeat' apply And.intro) <;> (try intro _) <;> (try intro _) <;> (repeat' apply And.intro) <;> (try intro _) <;> (try intro _) <;> first | trivial | assumption | exact .inr trivial | exact .inr rfl | omega | rfl | exact ⟨_, rfl, rfl⟩ | exact ⟨rfl, rfl⟩ | exact ⟨fun _ => rfl, fun _ => rfl⟩ | (unfold maxLen; omega) | (unfold i64R; first | omega | decide) | decide)
          rw [rng_eq]
          refine evC_if (q := !(decide (-1 ≤ w i) && decide (w i < c) && decide (-1 ≤ x i) && decide (x i < c))) (by kernel_rfl) (fun hc => ?_) (fun hc => ?_)
          · have hr : rngOK c w x i = false := (Bool.not_eq_true' _).mp hc
            refine evC_go0 (dec := []) (ks := [(0, 0), (0, 2), (0, 3), (0, 8), (0, 9)]) (s' := ⟨[(0, 0, Cont.cell (AV.int IntKind.i64 c)), (0, 2, Cont.cell (AV.rs 1 n false (nI w))), (0, 3, Cont.cell (AV.rs 1 m false (nI x))), (0, 8, Cont.cell (AV.int IntKind.i64 4)), (0, 9, Cont.cell (AV.int IntKind.i64 (↑i : Int)))], 265, 90⟩) (by kernel_rfl) (by kernel_rfl) ?_
            refine evC_ret ?_
            refine block_ret ?_
            refine then_ret ?_
            refine round_ret ?_
            refine block_ret ?_
            refine then_ret ?_
            refine post_ret ?_
            refine ends_flat (vs := [AV.int IntKind.i64 4]) (Nat.zero_lt_succ _) (by kernel_rfl) (flat_of _ (by kernel_rfl)) rfl ?_
            have e1 : (List.range n).all (rngOK c w x) = false := all_false hlt hr
            unfold chkF; rw [ha, e1]; rfl
          · have hr : rngOK c w x i = true := (Bool.not_eq_false' _).mp hc
            refine evC_skip ?_
            refine block_normal ?_
            refine then_normal ?_
            refine evC_goL0 (dec := []) (ks := [(0, 0), (0, 2), (0, 3), (0, 8), (0, 9)]) (s' := ⟨[(0, 0, Cont.cell (AV.int IntKind.i64 c)), (0, 2, Cont.cell (AV.rs 1 n false (nI w))), (0, 3, Cont.cell (AV.rs 1 m false (nI x))), (0, 8, Cont.cell (AV.int IntKind.i64 0)), (0, 9, Cont.cell (AV.int IntKind.i64 (IntKind.i64.wrap ((↑i : Int) + 1))))], 281, 90⟩) (by kernel_rfl) (by kernel_rfl) ?_
            rw [wrap_add_one hlt (by omega)]
            refine round_normal (⟨i + 1, by omega, fun j hj' => ?_⟩) (wk_go [] rfl (by decide) rfl rfl ⟨⟨_, rfl, rfl⟩, ⟨_, rfl, rfl⟩, ⟨_, rfl, rfl⟩, ⟨_, rfl, rfl⟩, ⟨_, rfl, rfl⟩, trivial⟩) ?_
            · rcases Nat.lt_or_ge j i with h | h
              · exact hj j h
              · have : j = i := by omega
                subst this; exact hr
            · show n - (i + 1) < n - i; omega
        · have hlt : i = n := by have := of_decide_eq_false hc; omega
          subst hlt
          have e1 : (List.range i).all (rngOK c w x) = true := all_true hj
          clear hc
          refine evC_exit ?_
          refine then_exit ?_
          refine round_exit ?_
          refine block_exit ?_
          refine then_normal ?_
          refine evC_seq ?_
          refine evC_go0 (dec := []) (ks := [(0, 2), (0, 8), (0, 10)]) (s' := ⟨[(0, 2, Cont.cell (AV.rs 1 i false (nI w))), (0, 8, Cont.cell (AV.int IntKind.i64 0)), (0, 10, Cont.cell (AV.int IntKind.i64 0))], 41, 90⟩) (by kernel_rfl) (by kernel_rfl) ?_
          refine evC_block ?_
          refine evC_loop (ι := { k : Nat // k ≤ i ∧ dupN w k = false }) (fun y => ⟨[(0, 2, Cont.cell (AV.rs 1 i false (nI w))), (0, 8, Cont.cell (AV.int IntKind.i64 0)), (0, 10, .cell (.int .i64 (y.1 : Nat)))], 1, 90⟩) (fun y => i - y.1) ⟨0, Nat.zero_le _, rfl⟩ (wk_go [] rfl (by decide) rfl rfl ⟨⟨_, rfl, rfl⟩, ⟨_, rfl, rfl⟩, ⟨_, rfl, rfl⟩, trivial⟩) ?_
          rintro ⟨k, hk, hd⟩
          refine evC_seq ?_
          refine evC_go0 (dec := []) (ks := [(0, 2), (0, 8), (0, 10), (0, 72)]) (s' := ⟨[(0, 2, Cont.cell (AV.rs 1 i false (nI w))), (0, 8, Cont.cell (AV.int IntKind.i64 0)), (0, 10, Cont.cell (AV.int IntKind.i64 (↑k : Int))), (0, 72, Cont.cell (AV.bool (decide ((↑k : Int) < (↑i : Int)))))], 33, 90⟩) (by kernel_rfl) (by kernel_rfl) ?_
          refine evC_if (q := decide ((↑k : Int) < (↑i : Int))) (by kernel_rfl) (fun hc => ?_) (fun hc => ?_)
          · have hlt : k < i := by have := of_decide_eq_true hc; omega
            clear hc
            refine evC_skip ?_
            refine then_normal ?_
            refine evC_seq ?_
            refine evC_block ?_
            refine evC_go (dec := []) (ks := [(0, 2), (0, 8), (0, 10), (0, 89)]) (ps := [(0 : Int) ≤ (↑k : Int), (↑k : Int) < (↑i : Int), (1 : Nat) = (1 : Nat), List.all [decide (w k ≥ (0 : Int))] id = true → (0 : Int) ≤ (↑k : Int), List.all [decide (w k ≥ (0 : Int))] id = true → (↑k : Int) < (↑i : Int), List.all [decide (w k ≥ (0 : Int))] id = true → (1 : Nat) = (1 : Nat), List.all [decide (w k ≥ (0 : Int))] id = true → (∀ (i_1 : Nat), i_1 < i → nI w i_1 = nI (W (nI w)) i_1) ∧ i ≤ maxLen]) (s' := ⟨[(0, 2, Cont.cell (AV.rs 1 i false (nI w))), (0, 8, Cont.cell (AV.int IntKind.i64 0)), (0, 10, Cont.cell (AV.int IntKind.i64 (↑k : Int))), (0, 89, Cont.cell (AV.bool (bif decide (w k ≥ 0) then onF (W (nI w)) i (w k) != (↑k : Int) else false)))], 153, 90⟩) (by kernel_rfl) (by kernel_rfl) ?_ ?_
            · (simp only [All]; (repeat' apply And.intro) <;> (try intro _) <;> (try intro _) <;> (repeat' apply And.intro) <;> (try intro _) <;> (try intro _) <;> first | trivial | assumption | exact .inr trivial | exact .inr rfl | omega | rfl | exact ⟨_, rfl, rfl⟩ | exact ⟨rfl, rfl⟩ | exact ⟨fun _ => rfl, fun _ => rfl⟩ | (unfold maxLen; omega) | (unfold i64R; first | omega | decide) | decide)
            have hds := dup_succ w k
            rw [hd, Bool.false_or, ← on_dup hlt] at hds
            rw [cond_and]
            refine evC_if (q := decide (w k ≥ 0) && onF (W (nI w)) i (w k) != (↑k : Int)) (by kernel_rfl) (fun hc => ?_) (fun hc => ?_)
            · have h6 : dupN w (k + 1) = true := hds.trans hc
              have h7 : dupN w i = true := by
                unfold dupN at h6 ⊢
                simp only [List.any_eq_true, List.mem_range] at h6 ⊢
                obtain ⟨a, ha, hb⟩ := h6
                exact ⟨a, by omega, hb⟩
              refine evC_go0 (dec := []) (ks := [(0, 2), (0, 8), (0, 10)]) (s' := ⟨[(0, 2, Cont.cell (AV.rs 1 i false (nI w))), (0, 8, Cont.cell (AV.int IntKind.i64 5)), (0, 10, Cont.cell (AV.int IntKind.i64 (↑k : Int)))], 161, 90⟩) (by kernel_rfl) (by kernel_rfl) ?_
              refine evC_ret ?_
              refine block_ret ?_
              refine then_ret ?_
              refine round_ret ?_
              refine block_ret ?_
              refine then_ret ?_
              refine post_ret ?_
              refine ends_flat (vs := [AV.int IntKind.i64 5]) (Nat.zero_lt_succ _) (by kernel_rfl) (flat_of _ (by kernel_rfl)) rfl ?_
              unfold chkF; rw [ha, e1, h7]; rfl
            · have h6 : dupN w (k + 1) = false := hds.trans hc
              refine evC_skip ?_
              refine block_normal ?_
              refine then_normal ?_
              refine evC_goL0 (dec := []) (ks := [(0, 2), (0, 8), (0, 10)]) (s' := ⟨[(0, 2, Cont.cell (AV.rs 1 i false (nI w))), (0, 8, Cont.cell (AV.int IntKind.i64 0)), (0, 10, Cont.cell (AV.int IntKind.i64 (IntKind.i64.wrap ((↑k : Int) + 1))))], 177, 90⟩) (by kernel_rfl) (by kernel_rfl) ?_
              rw [wrap_add_one hlt (by omega)]
              refine round_normal (⟨k + 1, by omega, h6⟩) (wk_go [] rfl (by decide) rfl rfl ⟨⟨_, rfl, rfl⟩, ⟨_, rfl, rfl⟩, ⟨_, rfl, rfl⟩, trivial⟩) ?_
              show i - (k + 1) < i - k; omega
          · have hlt : k = i := by have := of_decide_eq_false hc; omega
            subst hlt
            refine evC_exit ?_
            refine then_exit ?_
            refine round_exit ?_
            refine block_exit ?_
            refine then_normal ?_
            refine evC_go0 (dec := []) (ks := [(0, 8)]) (s' := ⟨[(0, 8, Cont.cell (AV.int IntKind.i64 0))], 41, 90⟩) (by kernel_rfl) (by kernel_rfl) ?_
            refine evC_ret ?_
            refine post_ret ?_
            refine ends_flat (vs := [AV.int IntKind.i64 0]) (Nat.zero_lt_succ _) (by kernel_rfl) (flat_of _ (by kernel_rfl)) rfl ?_
            unfold chkF; rw [ha, e1, hd]; rfl
    · cases e
  · cases e

/-! Few. -/
theorem nB_cut (q : Nat → Bool) : (fun i => nB q (Int.toNat 0 + i)) = nB q := funext fun i => by simp
theorem nI_cut (q : Nat → Int) : (fun i => nI q (Int.toNat 0 + i)) = nI q := funext fun i => by simp
def cut (n k : Nat) : Nat := bif Nat.blt k n then k else n
theorem cut_le (n k : Nat) : cut n k ≤ k ∧ cut n k ≤ n := by
  unfold cut
  cases h : Nat.blt k n with
  | true => have : k < n := by simpa [Nat.blt_eq] using h
            simp; omega
  | false => have : ¬ k < n := by
               intro h2; have : Nat.blt k n = true := by simpa [Nat.blt_eq] using h2
               rw [h] at this; cases this
             simp; omega
theorem cut_yes {n k : Nat} (h : decide ((n : Int) > (k : Int)) = true) : cut n k = k := by
  have : k < n := by have := of_decide_eq_true h; omega
  have h2 : Nat.blt k n = true := by simpa [Nat.blt_eq] using this
  unfold cut; rw [h2]; rfl
theorem cut_no {n k : Nat} (h : decide ((n : Int) > (k : Int)) = false) : cut n k = n := by
  have : ¬ k < n := by have := of_decide_eq_false h; omega
  have h2 : Nat.blt k n = false := by
    cases e : Nat.blt k n with
    | false => rfl
    | true => exact absurd (by simpa [Nat.blt_eq] using e) this
  unfold cut; rw [h2]; rfl
/-- A crowd. -/
def crowd (c : Int) (no : Nat) (q : Nat → Bool) (n : Nat) (w : Nat → Int) (m : Nat) (x : Nat → Int) : AV := .agg [.int .i64 c, .rs 1 no false (nB q), .rs 1 n false (nI w), .rs 1 m false (nI x)]
theorem crowd_has (c : Int) (no : Nat) (q : Nat → Bool) (n : Nat) (w : Nat → Int) (m : Nat) (x : Nat → Int) {nm : Bool} : Has nm true (crowd c no q n w m x) := by
  refine .agg _ fun v hv => ?_
  simp only [List.mem_cons, List.mem_nil_iff, or_false] at hv
  rcases hv with rfl | rfl | rfl | rfl
  · exact .int _ _
  · exact .rs _ _ _ _ rfl fun i _ => (nB_flat q i).has
  · exact .rs _ _ _ _ rfl fun i _ => (nI_flat w i).has
  · exact .rs _ _ _ _ rfl fun i _ => (nI_flat x i).has
theorem crowd_eq {c : Int} {no n m : Nat} {g f f2 : Nat → AV} {r : Nat → Prop} (h0 : g = nB (G g)) (h1 : f = nI (W f)) (h2 : f2 = nI (W f2)) : AV.agg [.int .i64 c, .rs 1 no false g, .rs 1 n false f, .rs 1 m false f2] = crowd c no (G g) n (W f) m (W f2) := by
  unfold crowd; rw [← h0, ← h1, ← h2]
def sFew : Spec := fun args _ _ => match args with
  | [.agg [.int .i64 c, .rs 1 no false g, .rs 1 n false f, .rs 1 m false f2]] => some ⟨[(g = nB (G g) ∧ f = nI (W f) ∧ f2 = nI (W f2)) ∧ no ≤ maxLen ∧ n ≤ maxLen ∧ m ≤ maxLen], crowd c (cut no 4100) (G g) (cut n 66) (W f) (cut m 66) (W f2), [], []⟩
  | _ => none
theorem few_ok : SpecOK Try.prog 8 sFew := by
  refine spec_own (by kernel_rfl) T_ok sget_nil Try.func8 rfl rfl fun args hr nb out e => ?_
  unfold sFew at e
  split at e
  · rename_i c no g n f m f2
    injection e with e; subst e
    refine ⟨(fun _ h => nomatch h), true, [crowd c no (G g) n (W f) m (W f2)], rfl, fun hs => ?_⟩
    obtain ⟨⟨h0, h1, h2⟩, h3, h4, h5⟩ := hs _ List.mem_cons_self
    rw [crowd_eq (r := fun _ => True) h0 h1 h2]
    refine ⟨.cons _ _ _ _ (.same _ _ (crowd_has _ _ _ _ _ _ _)) .nil, ?_⟩
    clear hs h0 h1 h2
    unfold maxLen at h3 h4 h5
    generalize W f = w
    generalize W f2 = x
    generalize G g = q
    unfold crowd
    refine evC_go0 (dec := []) (ks := [(0, 1), (0, 2), (1, 0), (1, 1), (1, 2), (1, 3), (1, 4), (9, 0), (9, 1), (9, 2), (9, 3), (9, 4)]) (s' := ⟨[(0, 1, Cont.cell (AV.ptr 1 0)), (0, 2, Cont.cell (AV.ptr 9 0)), (1, 0, Cont.cell (AV.int IntKind.i64 c)), (1, 1, Cont.cell (AV.rs 1 no false (nB q))), (1, 2, Cont.cell (AV.rs 1 n false (nI w))), (1, 3, Cont.cell (AV.rs 1 m false (nI x))), (1, 4, Cont.top), (9, 0, Cont.cell (AV.int IntKind.i64 0)), (9, 1, Cont.cell AV.nils), (9, 2, Cont.cell AV.nils), (9, 3, Cont.cell AV.nils), (9, 4, Cont.top)], 17, 28⟩) (by kernel_rfl) (by kernel_rfl) ?_
    refine evC_cutTo (ι := Unit) (fun _ => ⟨[(0, 1, Cont.cell (AV.ptr 1 0)), (0, 2, Cont.cell (AV.ptr 2 0)), (1, 0, Cont.cell (AV.int IntKind.i64 c)), (1, 1, .cell (.rs 1 (cut no 4100) false (nB q))), (1, 2, Cont.cell (AV.rs 1 n false (nI w))), (1, 3, Cont.cell (AV.rs 1 m false (nI x))), (1, 4, Cont.top), (2, 0, Cont.cell (AV.int IntKind.i64 0)), (2, 1, Cont.cell AV.nils), (2, 2, Cont.cell AV.nils), (2, 3, Cont.cell AV.nils), (2, 4, Cont.top)], 3, 28⟩) ?_ ?_
    · refine evC_go0 (dec := []) (ks := [(0, 1), (0, 2), (0, 6), (1, 0), (1, 1), (1, 2), (1, 3), (1, 4), (9, 0), (9, 1), (9, 2), (9, 3), (9, 4)]) (s' := ⟨[(0, 1, Cont.cell (AV.ptr 1 0)), (0, 2, Cont.cell (AV.ptr 9 0)), (0, 6, Cont.cell (AV.bool (decide ((↑no : Int) > 4100)))), (1, 0, Cont.cell (AV.int IntKind.i64 c)), (1, 1, Cont.cell (AV.rs 1 no false (nB q))), (1, 2, Cont.cell (AV.rs 1 n false (nI w))), (1, 3, Cont.cell (AV.rs 1 m false (nI x))), (1, 4, Cont.top), (9, 0, Cont.cell (AV.int IntKind.i64 0)), (9, 1, Cont.cell AV.nils), (9, 2, Cont.cell AV.nils), (9, 3, Cont.cell AV.nils), (9, 4, Cont.top)], 49, 28⟩) (by kernel_rfl) (by kernel_rfl) ?_
      refine evC_if (q := decide ((↑no : Int) > 4100)) (by kernel_rfl) (fun hc => ?_) (fun hc => ?_)
      · have hg : 4100 ≤ no := by have := of_decide_eq_true hc; omega
        refine evC_goL (dec := []) (ks := [(0, 1), (0, 2), (1, 0), (1, 1), (1, 2), (1, 3), (1, 4), (9, 0), (9, 1), (9, 2), (9, 3), (9, 4)]) (ps := [(0 : Int) ≤ (0 : Int), (0 : Int) ≤ (4100 : Int), (4100 : Int) ≤ (↑no : Int), (4100 : Int) = (4100 : Int), (1 : Nat) = (1 : Nat), false = true → true = true]) (s' := ⟨[(0, 1, Cont.cell (AV.ptr 1 0)), (0, 2, Cont.cell (AV.ptr 9 0)), (1, 0, Cont.cell (AV.int IntKind.i64 c)), (1, 1, Cont.cell (AV.rs 1 4100 false fun i => nB q (Int.toNat 0 + i))), (1, 2, Cont.cell (AV.rs 1 n false (nI w))), (1, 3, Cont.cell (AV.rs 1 m false (nI x))), (1, 4, Cont.top), (9, 0, Cont.cell (AV.int IntKind.i64 0)), (9, 1, Cont.cell AV.nils), (9, 2, Cont.cell AV.nils), (9, 3, Cont.cell AV.nils), (9, 4, Cont.top)], 89, 28⟩) (by kernel_rfl) (by kernel_rfl) ?_ ?_
        · (simp only [All]; (repeat' apply And.intro) <;> (try intro _) <;> (try intro _) <;> (repeat' apply And.intro) <;> (try intro _) <;> (try intro _) <;> first | trivial | assumption | exact .inr trivial | exact .inr rfl | omega | rfl | exact ⟨_, rfl, rfl⟩ | exact ⟨rfl, rfl⟩ | exact ⟨fun _ => rfl, fun _ => rfl⟩ | (unfold maxLen; omega) | (unfold i64R; first | omega | decide) | decide)
        refine cut_normal (()) (wk_go [1, 9] rfl (by decide) rfl rfl ⟨⟨_, rfl, rfl⟩, ⟨_, rfl, rfl⟩, ⟨_, rfl, rfl⟩, ⟨_, rfl, ?_⟩, ⟨_, rfl, rfl⟩, ⟨_, rfl, rfl⟩, ⟨_, rfl, trivial⟩, ⟨_, rfl, rfl⟩, ⟨_, rfl, rfl⟩, ⟨_, rfl, rfl⟩, ⟨_, rfl, rfl⟩, ⟨_, rfl, trivial⟩, trivial⟩)
        rw [cut_yes hc, nB_cut]; rfl
      · refine evC_skip ?_
        refine cut_normal (()) (wk_go [1, 9] rfl (by decide) rfl rfl ⟨⟨_, rfl, rfl⟩, ⟨_, rfl, rfl⟩, ⟨_, rfl, rfl⟩, ⟨_, rfl, ?_⟩, ⟨_, rfl, rfl⟩, ⟨_, rfl, rfl⟩, ⟨_, rfl, trivial⟩, ⟨_, rfl, rfl⟩, ⟨_, rfl, rfl⟩, ⟨_, rfl, rfl⟩, ⟨_, rfl, rfl⟩, ⟨_, rfl, trivial⟩, trivial⟩)
        rw [cut_no hc]; rfl
    intro _
    refine evC_cutTo (ι := Unit) (fun _ => ⟨[(0, 1, Cont.cell (AV.ptr 1 0)), (0, 2, Cont.cell (AV.ptr 2 0)), (1, 0, Cont.cell (AV.int IntKind.i64 c)), (1, 1, Cont.cell (AV.rs 1 (cut no 4100) false (nB q))), (1, 2, .cell (.rs 1 (cut n 66) false (nI w))), (1, 3, Cont.cell (AV.rs 1 m false (nI x))), (1, 4, Cont.top), (2, 0, Cont.cell (AV.int IntKind.i64 0)), (2, 1, Cont.cell AV.nils), (2, 2, Cont.cell AV.nils), (2, 3, Cont.cell AV.nils), (2, 4, Cont.top)], 3, 28⟩) ?_ ?_
    · refine evC_go0 (dec := []) (ks := [(0, 1), (0, 2), (0, 14), (1, 0), (1, 1), (1, 2), (1, 3), (1, 4), (2, 0), (2, 1), (2, 2), (2, 3), (2, 4)]) (s' := ⟨[(0, 1, Cont.cell (AV.ptr 1 0)), (0, 2, Cont.cell (AV.ptr 2 0)), (0, 14, Cont.cell (AV.bool (decide ((↑n : Int) > 66)))), (1, 0, Cont.cell (AV.int IntKind.i64 c)), (1, 1, Cont.cell (AV.rs 1 (cut no 4100) false (nB q))), (1, 2, Cont.cell (AV.rs 1 n false (nI w))), (1, 3, Cont.cell (AV.rs 1 m false (nI x))), (1, 4, Cont.top), (2, 0, Cont.cell (AV.int IntKind.i64 0)), (2, 1, Cont.cell AV.nils), (2, 2, Cont.cell AV.nils), (2, 3, Cont.cell AV.nils), (2, 4, Cont.top)], 35, 28⟩) (by kernel_rfl) (by kernel_rfl) ?_
      refine evC_if (q := decide ((↑n : Int) > 66)) (by kernel_rfl) (fun hc => ?_) (fun hc => ?_)
      · have hg : 66 ≤ n := by have := of_decide_eq_true hc; omega
        refine evC_goL (dec := []) (ks := [(0, 1), (0, 2), (1, 0), (1, 1), (1, 2), (1, 3), (1, 4), (2, 0), (2, 1), (2, 2), (2, 3), (2, 4)]) (ps := [(0 : Int) ≤ (0 : Int), (0 : Int) ≤ (66 : Int), (66 : Int) ≤ (↑n : Int), (66 : Int) = (66 : Int), (1 : Nat) = (1 : Nat), false = true → true = true]) (s' := ⟨[(0, 1, Cont.cell (AV.ptr 1 0)), (0, 2, Cont.cell (AV.ptr 2 0)), (1, 0, Cont.cell (AV.int IntKind.i64 c)), (1, 1, Cont.cell (AV.rs 1 (cut no 4100) false (nB q))), (1, 2, Cont.cell (AV.rs 1 66 false fun i => nI w (Int.toNat 0 + i))), (1, 3, Cont.cell (AV.rs 1 m false (nI x))), (1, 4, Cont.top), (2, 0, Cont.cell (AV.int IntKind.i64 0)), (2, 1, Cont.cell AV.nils), (2, 2, Cont.cell AV.nils), (2, 3, Cont.cell AV.nils), (2, 4, Cont.top)], 75, 28⟩) (by kernel_rfl) (by kernel_rfl) ?_ ?_
        · (simp only [All]; (repeat' apply And.intro) <;> (try intro _) <;> (try intro _) <;> (repeat' apply And.intro) <;> (try intro _) <;> (try intro _) <;> first | trivial | assumption | exact .inr trivial | exact .inr rfl | omega | rfl | exact ⟨_, rfl, rfl⟩ | exact ⟨rfl, rfl⟩ | exact ⟨fun _ => rfl, fun _ => rfl⟩ | (unfold maxLen; omega) | (unfold i64R; first | omega | decide) | decide)
        refine cut_normal (()) (wk_go [1, 2] rfl (by decide) rfl rfl ⟨⟨_, rfl, rfl⟩, ⟨_, rfl, rfl⟩, ⟨_, rfl, rfl⟩, ⟨_, rfl, rfl⟩, ⟨_, rfl, ?_⟩, ⟨_, rfl, rfl⟩, ⟨_, rfl, trivial⟩, ⟨_, rfl, rfl⟩, ⟨_, rfl, rfl⟩, ⟨_, rfl, rfl⟩, ⟨_, rfl, rfl⟩, ⟨_, rfl, trivial⟩, trivial⟩)
        rw [cut_yes hc, nI_cut]; rfl
      · refine evC_skip ?_
        refine cut_normal (()) (wk_go [1, 2] rfl (by decide) rfl rfl ⟨⟨_, rfl, rfl⟩, ⟨_, rfl, rfl⟩, ⟨_, rfl, rfl⟩, ⟨_, rfl, rfl⟩, ⟨_, rfl, ?_⟩, ⟨_, rfl, rfl⟩, ⟨_, rfl, trivial⟩, ⟨_, rfl, rfl⟩, ⟨_, rfl, rfl⟩, ⟨_, rfl, rfl⟩, ⟨_, rfl, rfl⟩, ⟨_, rfl, trivial⟩, trivial⟩)
        rw [cut_no hc]; rfl
    intro _
    refine evC_cutTo (ι := Unit) (fun _ => ⟨[(0, 1, Cont.cell (AV.ptr 1 0)), (0, 2, Cont.cell (AV.ptr 2 0)), (1, 0, Cont.cell (AV.int IntKind.i64 c)), (1, 1, Cont.cell (AV.rs 1 (cut no 4100) false (nB q))), (1, 2, Cont.cell (AV.rs 1 (cut n 66) false (nI w))), (1, 3, .cell (.rs 1 (cut m 66) false (nI x))), (1, 4, Cont.top), (2, 0, Cont.cell (AV.int IntKind.i64 0)), (2, 1, Cont.cell AV.nils), (2, 2, Cont.cell AV.nils), (2, 3, Cont.cell AV.nils), (2, 4, Cont.top)], 3, 28⟩) ?_ ?_
    · refine evC_go0 (dec := []) (ks := [(0, 1), (0, 2), (0, 22), (1, 0), (1, 1), (1, 2), (1, 3), (1, 4), (2, 0), (2, 1), (2, 2), (2, 3), (2, 4)]) (s' := ⟨[(0, 1, Cont.cell (AV.ptr 1 0)), (0, 2, Cont.cell (AV.ptr 2 0)), (0, 22, Cont.cell (AV.bool (decide ((↑m : Int) > 66)))), (1, 0, Cont.cell (AV.int IntKind.i64 c)), (1, 1, Cont.cell (AV.rs 1 (cut no 4100) false (nB q))), (1, 2, Cont.cell (AV.rs 1 (cut n 66) false (nI w))), (1, 3, Cont.cell (AV.rs 1 m false (nI x))), (1, 4, Cont.top), (2, 0, Cont.cell (AV.int IntKind.i64 0)), (2, 1, Cont.cell AV.nils), (2, 2, Cont.cell AV.nils), (2, 3, Cont.cell AV.nils), (2, 4, Cont.top)], 35, 28⟩) (by kernel_rfl) (by kernel_rfl) ?_
      refine evC_if (q := decide ((↑m : Int) > 66)) (by kernel_rfl) (fun hc => ?_) (fun hc => ?_)
      · have hg : 66 ≤ m := by have := of_decide_eq_true hc; omega
        refine evC_goL (dec := []) (ks := [(0, 1), (0, 2), (1, 0), (1, 1), (1, 2), (1, 3), (1, 4), (2, 0), (2, 1), (2, 2), (2, 3), (2, 4)]) (ps := [(0 : Int) ≤ (0 : Int), (0 : Int) ≤ (66 : Int), (66 : Int) ≤ (↑m : Int), (66 : Int) = (66 : Int), (1 : Nat) = (1 : Nat), false = true → true = true]) (s' := ⟨[(0, 1, Cont.cell (AV.ptr 1 0)), (0, 2, Cont.cell (AV.ptr 2 0)), (1, 0, Cont.cell (AV.int IntKind.i64 c)), (1, 1, Cont.cell (AV.rs 1 (cut no 4100) false (nB q))), (1, 2, Cont.cell (AV.rs 1 (cut n 66) false (nI w))), (1, 3, Cont.cell (AV.rs 1 66 false fun i => nI x (Int.toNat 0 + i))), (1, 4, Cont.top), (2, 0, Cont.cell (AV.int IntKind.i64 0)), (2, 1, Cont.cell AV.nils), (2, 2, Cont.cell AV.nils), (2, 3, Cont.cell AV.nils), (2, 4, Cont.top)], 75, 28⟩) (by kernel_rfl) (by kernel_rfl) ?_ ?_
        · (simp only [All]; (repeat' apply And.intro) <;> (try intro _) <;> (try intro _) <;> (repeat' apply And.intro) <;> (try intro _) <;> (try intro _) <;> first | trivial | assumption | exact .inr trivial | exact .inr rfl | omega | rfl | exact ⟨_, rfl, rfl⟩ | exact ⟨rfl, rfl⟩ | exact ⟨fun _ => rfl, fun _ => rfl⟩ | (unfold maxLen; omega) | (unfold i64R; first | omega | decide) | decide)
        refine cut_normal (()) (wk_go [1, 2] rfl (by decide) rfl rfl ⟨⟨_, rfl, rfl⟩, ⟨_, rfl, rfl⟩, ⟨_, rfl, rfl⟩, ⟨_, rfl, rfl⟩, ⟨_, rfl, rfl⟩, ⟨_, rfl, ?_⟩, ⟨_, rfl, trivial⟩, ⟨_, rfl, rfl⟩, ⟨_, rfl, rfl⟩, ⟨_, rfl, rfl⟩, ⟨_, rfl, rfl⟩, ⟨_, rfl, trivial⟩, trivial⟩)
        rw [cut_yes hc, nI_cut]; rfl
      · refine evC_skip ?_
        refine cut_normal (()) (wk_go [1, 2] rfl (by decide) rfl rfl ⟨⟨_, rfl, rfl⟩, ⟨_, rfl, rfl⟩, ⟨_, rfl, rfl⟩, ⟨_, rfl, rfl⟩, ⟨_, rfl, rfl⟩, ⟨_, rfl, ?_⟩, ⟨_, rfl, trivial⟩, ⟨_, rfl, rfl⟩, ⟨_, rfl, rfl⟩, ⟨_, rfl, rfl⟩, ⟨_, rfl, rfl⟩, ⟨_, rfl, trivial⟩, trivial⟩)
        rw [cut_no hc]; rfl
    intro _
    refine evC_go0 (dec := []) (ks := [(0, 2), (2, 0), (2, 1), (2, 2), (2, 3), (2, 4)]) (s' := ⟨[(0, 2, Cont.cell (AV.ptr 2 0)), (2, 0, Cont.cell (AV.int IntKind.i64 c)), (2, 1, Cont.cell (AV.rs 1 (cut no 4100) false (nB q))), (2, 2, Cont.cell (AV.rs 1 (cut n 66) false (nI w))), (2, 3, Cont.cell (AV.rs 1 (cut m 66) false (nI x))), (2, 4, Cont.top)], 19, 28⟩) (by kernel_rfl) (by kernel_rfl) ?_
    refine evC_ret ?_
    refine post_ret ?_
    refine ends_go [] (AV.agg [AV.int IntKind.i64 c, AV.rs 1 (cut no 4100) false (nB q), AV.rs 1 (cut n 66) false (nI w), AV.rs 1 (cut m 66) false (nI x)]) [] rfl (by decide) rfl rfl (?_) rfl trivial trivial (kept_nil _)
    exact crowd_has _ _ _ _ _ _ _
  · cases e
end Go.Eng.S15
