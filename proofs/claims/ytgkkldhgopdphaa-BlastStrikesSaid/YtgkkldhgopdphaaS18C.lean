/- Seat 18: who is struck, walked. -/
import Derived.Test.YtgkkldhgopdphaaEngX
import Derived.Test.YtgkkldhgopdphaaS18B
set_option linter.unusedSimpArgs false
set_option linter.unusedVariables false
namespace Go.Eng.S18
open Go.Proofs Go.IntWalk
set_option maxRecDepth 10000

def lf (g : Nat → AV) (m : Nat) (a : AV) : Int := leftF g m (cv 0 a) (cv 1 a) (cv 2 a)
def deadL (f g : Nat → AV) (m : Nat) : Nat → List Int
  | 0 => []
  | k + 1 => if lf g m (f k) = 0 ∧ 0 < cv 2 (f k) then deadL f g m k ++ [(k : Int)] else deadL f g m k
def outC (f g : Nat → AV) (m : Nat) : Nat → AV := st3 (fun i => cv 0 (f i)) (fun i => cv 1 (f i)) (fun i => lf g m (f i))
def hitN (g : Nat → AV) (x y h : Int) : Nat → Int
  | 0 => h
  | k + 1 => mx2 0 (hitN g x y h k - hu (g k) x y)
theorem leftF_le {g : Nat → AV} {m : Nat} {x y h : Int} (c : h ≤ hsum g x y m) : leftF g m x y h = 0 := if_pos c
theorem leftF_gt {g : Nat → AV} {m : Nat} {x y h : Int} (c : ¬ h ≤ hsum g x y m) : leftF g m x y h = h - hsum g x y m := if_neg c
theorem hitN_eq (g : Nat → AV) (x y h : Int) (hh : 0 ≤ h) (k : Nat) : hitN g x y h k = leftF g k x y h := by
  induction k with
  | zero =>
    have e : hsum g x y 0 = 0 := rfl
    show h = _
    by_cases h0 : h ≤ hsum g x y 0
    · rw [leftF_le h0]; omega
    · rw [leftF_gt h0]; omega
  | succ k ih =>
    have h1 := hsum_bound g x y k
    have h2 := hu_bound (g k) x y
    have e : hsum g x y (k + 1) = hsum g x y k + hu (g k) x y := rfl
    show mx2 0 (hitN g x y h k - hu (g k) x y) = _
    rw [ih]
    unfold mx2
    by_cases c1 : h ≤ hsum g x y k
    · rw [leftF_le c1, leftF_le (by omega : h ≤ hsum g x y (k + 1)), if_neg (by omega)]
    · rw [leftF_gt c1]
      by_cases c2 : h ≤ hsum g x y (k + 1)
      · rw [leftF_le c2, if_neg (by omega)]
      · rw [leftF_gt c2, if_pos (by omega)]; omega
theorem hitN_bound (g : Nat → AV) (x y h : Int) (hh : 0 ≤ h ∧ h ≤ 9999) (k : Nat) : 0 ≤ hitN g x y h k ∧ hitN g x y h k ≤ 9999 := by
  have h1 := hsum_bound g x y k
  rw [hitN_eq g x y h hh.1]
  unfold leftF
  by_cases c : h ≤ hsum g x y k
  · rw [if_pos c]; omega
  · rw [if_neg c]; omega

theorem mayX_hc (x y h : Int) : (bif bif !span x y then true else decide (h < 0) then true else decide (h > 9999)) = !mayX x y h := by
  unfold mayX inR
  cases span x y with
  | false => rfl
  | true =>
    by_cases h0 : h < 0
    · have : ¬ 0 ≤ h := by omega
      simp [h0, this]
    · have : 0 ≤ h := by omega
      by_cases h9 : h > 9999
      · have : ¬ h ≤ 9999 := by omega
        simp [h9, this]
      · have : h ≤ 9999 := by omega
        simp [*]
theorem deadL_yes {f g : Nat → AV} {m i : Nat} (h : lf g m (f i) = 0 ∧ 0 < cv 2 (f i)) : deadL f g m (i + 1) = deadL f g m i ++ [(i : Int)] := if_pos h
theorem deadL_no {f g : Nat → AV} {m i : Nat} (h : ¬ (lf g m (f i) = 0 ∧ 0 < cv 2 (f i))) : deadL f g m (i + 1) = deadL f g m i := if_neg h
theorem deadL_len (f g : Nat → AV) (m : Nat) : ∀ i, (deadL f g m i).length ≤ i
  | 0 => Nat.le_refl _
  | i + 1 => by
    have := deadL_len f g m i
    by_cases h : lf g m (f i) = 0 ∧ 0 < cv 2 (f i)
    · rw [deadL_yes h, List.length_append]; simp; omega
    · rw [deadL_no h]; omega

def sStrike : Spec := fun args hr nb => match args with
  | [v, u] => match sl 3 hr v, sl 4 hr u with
    | some (n, f, rd), some (m, g, rd') => some ⟨[(∀ i, i < n → f i = bodyC f i) ∧ (∀ i, i < m → g i = blowC g i) ∧ n ≤ maxLen ∧ m ≤ maxLen],
      .tup [.vs nb, .vs (nb + 1), .int .i64 (errF (okAll n f m g))], rd ++ rd', [(nb, 0, .vec 3 38 (bif okAll n f m g then n else 0) (outC f g m)), (nb + 1, 0, .vec 1 3 (bif okAll n f m g then (deadL f g m n).length else 0) (lst (deadL f g m n)))]⟩
    | _, _ => none
  | _ => none
theorem strike_ok : SpecOK Try.prog 11 sStrike := by
  refine spec_own (by kernel_rfl) T_ok (sget_cons mayB_ok (sget_cons span_ok (sget_cons hit_ok sget_nil))) Try.func11 rfl rfl fun args hr nb out e => ?_
  unfold sStrike at e
  split at e
  · rename_i v u
    split at e
    · rename_i n f rd m g rd' hs1 hs2
      injection e with e; subst e
      refine ⟨fun x hx => (List.mem_append.1 hx).elim (sl_rd hs1 x) (sl_rd hs2 x), false, [.rs 3 n false (bodyC f), .rs 4 m false (blowC g)], rfl, fun hs => ?_⟩
      obtain ⟨h1, h2, h3, h4⟩ := hs _ List.mem_cons_self
      refine ⟨.cons _ _ _ _ (.slice _ _ _ _ _ hs1 (fun y hy => ⟨List.mem_append_left _ hy, by simp⟩) _ fun i hi => ⟨h1 i hi, (bodyC_flat f i).has⟩)
        (.cons _ _ _ _ (.slice _ _ _ _ _ hs2 (fun y hy => ⟨List.mem_append_right _ hy, by simp⟩) _ fun i hi => ⟨h2 i hi, (blowC_flat g i).has⟩) .nil), ?_⟩
      clear hs
      unfold maxLen at h3 h4
      refine evC_go0 (dec := []) (ks := [(0, 0), (0, 1), (0, 4), (0, 5), (0, 6)]) (s' := ⟨[(0, 0, Cont.cell (AV.rs 3 n false (bodyC f))), (0, 1, Cont.cell (AV.rs 4 m false (blowC g))), (0, 4, Cont.cell AV.nils), (0, 5, Cont.cell AV.nils), (0, 6, Cont.cell (AV.int IntKind.i64 0))], 25, 91⟩) (by kernel_rfl) (by kernel_rfl) ?_
      refine evC_seq ?_
      refine evC_go0 (dec := []) (ks := [(0, 0), (0, 1), (0, 4), (0, 5), (0, 6), (0, 24)]) (s' := ⟨[(0, 0, Cont.cell (AV.rs 3 n false (bodyC f))), (0, 1, Cont.cell (AV.rs 4 m false (blowC g))), (0, 4, Cont.cell AV.nils), (0, 5, Cont.cell AV.nils), (0, 6, Cont.cell (AV.int IntKind.i64 0)), (0, 24, Cont.cell (AV.bool (bif decide ((↑n : Int) > 256) then true else decide ((↑m : Int) > 256))))], 89, 91⟩) (by kernel_rfl) (by kernel_rfl) ?_
      refine evC_if (q := bif decide ((↑n : Int) > 256) then true else decide ((↑m : Int) > 256)) (by kernel_rfl) (fun hc => ?_) (fun hc => ?_)
      · have hok : okAll n f m g = false := by
          have : ¬ (n ≤ 256 ∧ m ≤ 256) := by
            rintro ⟨a, b⟩
            have e1 : decide ((n : Int) > 256) = false := decide_eq_false (by omega)
            have e2 : decide ((m : Int) > 256) = false := decide_eq_false (by omega)
            simp [e1, e2] at hc
          simp only [okAll]
          cases e1 : decide (n ≤ 256) <;> cases e2 : decide (m ≤ 256) <;> simp at e1 e2 ⊢
          omega
        rw [hok]
        simp only [cond_false]
        refine evC_go0 (dec := []) (ks := [(0, 0), (0, 1), (0, 4), (0, 5), (0, 6)]) (s' := ⟨[(0, 0, Cont.cell (AV.rs 3 n false (bodyC f))), (0, 1, Cont.cell (AV.rs 4 m false (blowC g))), (0, 4, Cont.cell AV.nils), (0, 5, Cont.cell AV.nils), (0, 6, Cont.cell (AV.int IntKind.i64 1))], 113, 91⟩) (by kernel_rfl) (by kernel_rfl) ?_
        refine evC_wk _ (.nil 0 4 3 38 (fun _ => .nils) (Nat.le_of_ble_eq_true rfl) rfl) ?_
        refine evC_wk _ (.nil 0 5 1 3 (fun _ => .nils) (Nat.le_of_ble_eq_true rfl) rfl) ?_
        refine evC_ret ?_
        refine then_ret ?_
        refine post_ret ?_
        refine ends_go [113, 114] (AV.tup [AV.vs 1, AV.vs 2, AV.int IntKind.i64 1]) [(1, 0, Cont.vec 3 38 0 fun x => AV.nils), (2, 0, Cont.vec 1 3 0 fun x => AV.nils)] rfl (by decide) rfl rfl (has_of _ rfl) rfl ⟨⟨_, rfl, ⟨rfl, rfl, rfl, fun _ _ => rfl⟩⟩, ⟨_, rfl, ⟨rfl, rfl, rfl, fun _ _ => rfl⟩⟩, trivial⟩ ⟨⟨1, _, rfl, rfl, rfl, ⟨rfl, rfl, rfl, fun _ hi => absurd hi (Nat.not_lt_zero _)⟩⟩, ⟨2, _, rfl, rfl, rfl, ⟨rfl, rfl, rfl, fun _ hi => absurd hi (Nat.not_lt_zero _)⟩⟩, trivial⟩ (kept_nil _)
      · have hnm : n ≤ 256 ∧ m ≤ 256 := by
          refine ⟨?_, ?_⟩
          · cases e1 : decide ((n : Int) > 256) <;> simp at e1 <;> simp [e1] at hc <;> omega
          · cases e1 : decide ((m : Int) > 256) <;> simp at e1 <;> simp [e1] at hc <;> omega
        clear hc
        refine evC_skip ?_
        refine then_normal ?_
        refine evC_seq ?_
        refine evC_go0 (dec := []) (ks := [(0, 0), (0, 1), (0, 4), (0, 5), (0, 6), (0, 25), (0, 26), (0, 27)]) (s' := ⟨[(0, 0, Cont.cell (AV.rs 3 n false (bodyC f))), (0, 1, Cont.cell (AV.rs 4 m false (blowC g))), (0, 4, Cont.cell AV.nils), (0, 5, Cont.cell AV.nils), (0, 6, Cont.cell (AV.int IntKind.i64 0)), (0, 25, Cont.cell (AV.rs 4 m false (blowC g))), (0, 26, Cont.cell (AV.int IntKind.i64 (↑m : Int))), (0, 27, Cont.cell (AV.int IntKind.i64 0))], 113, 91⟩) (by kernel_rfl) (by kernel_rfl) ?_
        refine evC_block ?_
        refine evC_loop (ι := { i : Nat // i ≤ m ∧ ∀ j, j < i → mB (g j) = true }) (fun x => ⟨[(0, 0, Cont.cell (AV.rs 3 n false (bodyC f))), (0, 1, Cont.cell (AV.rs 4 m false (blowC g))), (0, 4, Cont.cell AV.nils), (0, 5, Cont.cell AV.nils), (0, 6, Cont.cell (AV.int IntKind.i64 0)), (0, 25, Cont.cell (AV.rs 4 m false (blowC g))), (0, 26, Cont.cell (AV.int IntKind.i64 (↑m : Int))), (0, 27, .cell (.int .i64 (x.1 : Nat)))], 1, 91⟩) (fun x => m - x.1) ⟨0, Nat.zero_le _, fun j hj => absurd hj (Nat.not_lt_zero j)⟩ (wk_go [] rfl (by decide) rfl rfl ⟨⟨_, rfl, rfl⟩, ⟨_, rfl, rfl⟩, ⟨_, rfl, rfl⟩, ⟨_, rfl, rfl⟩, ⟨_, rfl, rfl⟩, ⟨_, rfl, rfl⟩, ⟨_, rfl, rfl⟩, ⟨_, rfl, rfl⟩, trivial⟩) ?_
        rintro ⟨k, hkm, hk⟩
        refine evC_go0 (dec := []) (ks := [(0, 0), (0, 1), (0, 4), (0, 5), (0, 6), (0, 25), (0, 26), (0, 27), (0, 28)]) (s' := ⟨[(0, 0, Cont.cell (AV.rs 3 n false (bodyC f))), (0, 1, Cont.cell (AV.rs 4 m false (blowC g))), (0, 4, Cont.cell AV.nils), (0, 5, Cont.cell AV.nils), (0, 6, Cont.cell (AV.int IntKind.i64 0)), (0, 25, Cont.cell (AV.rs 4 m false (blowC g))), (0, 26, Cont.cell (AV.int IntKind.i64 (↑m : Int))), (0, 27, Cont.cell (AV.int IntKind.i64 (↑k : Int))), (0, 28, Cont.cell (AV.bool (decide ((↑k : Int) < (↑m : Int)))))], 9, 91⟩) (by kernel_rfl) (by kernel_rfl) ?_
        refine evC_seq ?_
        refine evC_if (q := decide ((↑k : Int) < (↑m : Int))) (by kernel_rfl) (fun hc => ?_) (fun hc => ?_)
        · have hlt : (k : Int) < (m : Int) := of_decide_eq_true hc
          refine evC_skip ?_
          refine then_normal ?_
          refine evC_seq ?_
          refine evC_block ?_
          refine evC_go (dec := []) (ks := [(0, 0), (0, 1), (0, 4), (0, 5), (0, 6), (0, 8), (0, 25), (0, 26), (0, 27), (25, 0), (25, 1), (25, 2), (25, 3), (25, 4)]) (ps := [(0 : Int) ≤ (↑k : Int), (↑k : Int) < (↑m : Int), (4 : Nat) = (4 : Nat)]) (s' := ⟨[(0, 0, Cont.cell (AV.rs 3 n false (bodyC f))), (0, 1, Cont.cell (AV.rs 4 m false (blowC g))), (0, 4, Cont.cell AV.nils), (0, 5, Cont.cell AV.nils), (0, 6, Cont.cell (AV.int IntKind.i64 0)), (0, 8, Cont.cell (AV.ptr 25 0)), (0, 25, Cont.cell (AV.rs 4 m false (blowC g))), (0, 26, Cont.cell (AV.int IntKind.i64 (↑m : Int))), (0, 27, Cont.cell (AV.int IntKind.i64 (↑k : Int))), (25, 0, Cont.cell (AV.int IntKind.i64 (cv 0 (g (Int.toNat (↑k : Int)))))), (25, 1, Cont.cell (AV.int IntKind.i64 (cv 1 (g (Int.toNat (↑k : Int)))))), (25, 2, Cont.cell (AV.int IntKind.i64 (cv 2 (g (Int.toNat (↑k : Int)))))), (25, 3, Cont.cell (AV.int IntKind.i64 (cv 3 (g (Int.toNat (↑k : Int)))))), (25, 4, Cont.top)], 41, 91⟩) (by kernel_rfl) (by kernel_rfl) ?_ ?_
          · exact ⟨by omega, hlt, rfl⟩
          refine evC_go0 (dec := []) (ks := [(0, 0), (0, 1), (0, 4), (0, 5), (0, 6), (0, 25), (0, 26), (0, 27), (0, 33)]) (s' := ⟨[(0, 0, Cont.cell (AV.rs 3 n false (bodyC f))), (0, 1, Cont.cell (AV.rs 4 m false (blowC g))), (0, 4, Cont.cell AV.nils), (0, 5, Cont.cell AV.nils), (0, 6, Cont.cell (AV.int IntKind.i64 0)), (0, 25, Cont.cell (AV.rs 4 m false (blowC g))), (0, 26, Cont.cell (AV.int IntKind.i64 (↑m : Int))), (0, 27, Cont.cell (AV.int IntKind.i64 (↑k : Int))), (0, 33, Cont.cell (AV.bool !mayB (cv 0 (g (Int.toNat (↑k : Int)))) (cv 1 (g (Int.toNat (↑k : Int)))) (cv 2 (g (Int.toNat (↑k : Int)))) (cv 3 (g (Int.toNat (↑k : Int))))))], 65, 91⟩) (by kernel_rfl) (by kernel_rfl) ?_
          refine evC_if (q := !mayB (cv 0 (g (Int.toNat (↑k : Int)))) (cv 1 (g (Int.toNat (↑k : Int)))) (cv 2 (g (Int.toNat (↑k : Int)))) (cv 3 (g (Int.toNat (↑k : Int))))) (by kernel_rfl) (fun hc => ?_) (fun hc => ?_)
          · have hf : mB (g k) = false := by simpa [blowC, st4, mB] using hc
            have hok : okAll n f m g = false := by simp only [okAll]; rw [all_false (n := m) (i := k) (by omega) hf]; simp
            rw [hok]
            simp only [cond_false]
            refine evC_go0 (dec := []) (ks := [(0, 0), (0, 1), (0, 4), (0, 5), (0, 6), (0, 25), (0, 26), (0, 27)]) (s' := ⟨[(0, 0, Cont.cell (AV.rs 3 n false (bodyC f))), (0, 1, Cont.cell (AV.rs 4 m false (blowC g))), (0, 4, Cont.cell AV.nils), (0, 5, Cont.cell AV.nils), (0, 6, Cont.cell (AV.int IntKind.i64 1)), (0, 25, Cont.cell (AV.rs 4 m false (blowC g))), (0, 26, Cont.cell (AV.int IntKind.i64 (↑m : Int))), (0, 27, Cont.cell (AV.int IntKind.i64 (↑k : Int)))], 89, 91⟩) (by kernel_rfl) (by kernel_rfl) ?_
            refine evC_wk _ (.nil 0 4 3 38 (fun _ => .nils) (Nat.le_of_ble_eq_true rfl) rfl) ?_
            refine evC_wk _ (.nil 0 5 1 3 (fun _ => .nils) (Nat.le_of_ble_eq_true rfl) rfl) ?_
            refine evC_ret ?_
            refine block_ret ?_
            refine then_ret ?_
            refine round_ret ?_
            refine block_ret ?_
            refine then_ret ?_
            refine post_ret ?_
            refine ends_go [89, 90] (AV.tup [AV.vs 1, AV.vs 2, AV.int IntKind.i64 1]) [(1, 0, Cont.vec 3 38 0 fun x => AV.nils), (2, 0, Cont.vec 1 3 0 fun x => AV.nils)] rfl (by decide) rfl rfl (has_of _ rfl) rfl ⟨⟨_, rfl, ⟨rfl, rfl, rfl, fun _ _ => rfl⟩⟩, ⟨_, rfl, ⟨rfl, rfl, rfl, fun _ _ => rfl⟩⟩, trivial⟩ ⟨⟨1, _, rfl, rfl, rfl, ⟨rfl, rfl, rfl, fun _ hi => absurd hi (Nat.not_lt_zero _)⟩⟩, ⟨2, _, rfl, rfl, rfl, ⟨rfl, rfl, rfl, fun _ hi => absurd hi (Nat.not_lt_zero _)⟩⟩, trivial⟩ (kept_nil _)
          · have hf : mB (g k) = true := by simpa [blowC, st4, mB] using hc
            refine evC_skip ?_
            refine block_normal ?_
            refine then_normal ?_
            refine evC_goL0 (dec := []) (ks := [(0, 0), (0, 1), (0, 4), (0, 5), (0, 6), (0, 25), (0, 26), (0, 27)]) (s' := ⟨[(0, 0, Cont.cell (AV.rs 3 n false (bodyC f))), (0, 1, Cont.cell (AV.rs 4 m false (blowC g))), (0, 4, Cont.cell AV.nils), (0, 5, Cont.cell AV.nils), (0, 6, Cont.cell (AV.int IntKind.i64 0)), (0, 25, Cont.cell (AV.rs 4 m false (blowC g))), (0, 26, Cont.cell (AV.int IntKind.i64 (↑m : Int))), (0, 27, Cont.cell (AV.int IntKind.i64 (IntKind.i64.wrap ((↑k : Int) + 1))))], 81, 91⟩) (by kernel_rfl) (by kernel_rfl) ?_
            rw [wrap_add_one (by omega : k < m) (by omega)]
            refine round_normal (⟨k + 1, by omega, fun j hj' => ?_⟩) (wk_go [] rfl (by decide) rfl rfl ⟨⟨_, rfl, rfl⟩, ⟨_, rfl, rfl⟩, ⟨_, rfl, rfl⟩, ⟨_, rfl, rfl⟩, ⟨_, rfl, rfl⟩, ⟨_, rfl, rfl⟩, ⟨_, rfl, rfl⟩, ⟨_, rfl, rfl⟩, trivial⟩) ?_
            · rcases Nat.lt_or_ge j k with h | h
              · exact hk j h
              · have : j = k := by omega
                subst this; exact hf
            · show m - (k + 1) < m - k; omega
        · have hlt : ¬ (k : Int) < (m : Int) := of_decide_eq_false hc
          have hall : (List.range m).all (fun i => mB (g i)) = true := all_true fun j hj' => hk j (by omega)
          refine evC_exit ?_
          refine then_exit ?_
          refine round_exit ?_
          refine block_exit ?_
          refine then_normal ?_
          refine evC_go0 (dec := []) (ks := [(0, 0), (0, 1), (0, 4), (0, 5), (0, 6), (0, 9)]) (s' := ⟨[(0, 0, Cont.cell (AV.rs 3 n false (bodyC f))), (0, 1, Cont.cell (AV.rs 4 m false (blowC g))), (0, 4, Cont.cell AV.nils), (0, 5, Cont.cell AV.nils), (0, 6, Cont.cell (AV.int IntKind.i64 0)), (0, 9, Cont.cell AV.nils)], 17, 91⟩) (by kernel_rfl) (by kernel_rfl) ?_
          refine evC_go0 (dec := []) (ks := [(0, 0), (0, 1), (0, 4), (0, 5), (0, 6), (0, 9), (0, 10)]) (s' := ⟨[(0, 0, Cont.cell (AV.rs 3 n false (bodyC f))), (0, 1, Cont.cell (AV.rs 4 m false (blowC g))), (0, 4, Cont.cell AV.nils), (0, 5, Cont.cell AV.nils), (0, 6, Cont.cell (AV.int IntKind.i64 0)), (0, 9, Cont.cell AV.nils), (0, 10, Cont.cell AV.nils)], 25, 91⟩) (by kernel_rfl) (by kernel_rfl) ?_
          refine evC_seq ?_
          refine evC_go0 (dec := []) (ks := [(0, 1), (0, 4), (0, 5), (0, 6), (0, 9), (0, 10), (0, 35), (0, 36), (0, 37)]) (s' := ⟨[(0, 1, Cont.cell (AV.rs 4 m false (blowC g))), (0, 4, Cont.cell AV.nils), (0, 5, Cont.cell AV.nils), (0, 6, Cont.cell (AV.int IntKind.i64 0)), (0, 9, Cont.cell AV.nils), (0, 10, Cont.cell AV.nils), (0, 35, Cont.cell (AV.rs 3 n false (bodyC f))), (0, 36, Cont.cell (AV.int IntKind.i64 (↑n : Int))), (0, 37, Cont.cell (AV.int IntKind.i64 0))], 49, 91⟩) (by kernel_rfl) (by kernel_rfl) ?_
          refine evC_wk _ (.nil 0 9 3 38 (fun _ => .nils) (Nat.le_of_ble_eq_true rfl) rfl) ?_
          refine evC_wk _ (.nil 0 10 1 3 (fun _ => .nils) (Nat.le_of_ble_eq_true rfl) rfl) ?_
          refine evC_block ?_
          refine evC_loop (ι := { i : Nat // i ≤ n ∧ ∀ j, j < i → mX (f j) = true }) (fun x => ⟨[(0, 1, Cont.cell (AV.rs 4 m false (blowC g))), (0, 4, Cont.cell AV.nils), (0, 5, Cont.cell AV.nils), (0, 6, Cont.cell (AV.int IntKind.i64 0)), (0, 9, Cont.cell (AV.vs 1)), (0, 10, Cont.cell (AV.vs 2)), (0, 35, Cont.cell (AV.rs 3 n false (bodyC f))), (0, 36, Cont.cell (AV.int IntKind.i64 (↑n : Int))), (0, 37, .cell (.int .i64 (x.1 : Nat))), (1, 0, .vec 3 38 x.1 (outC f g m)), (2, 0, .vec 1 3 (deadL f g m x.1).length (lst (deadL f g m x.1)))], 3, 91⟩) (fun x => n - x.1) ⟨0, Nat.zero_le _, fun j hj => absurd hj (Nat.not_lt_zero j)⟩ (wk_go [49, 50] rfl (by decide) rfl rfl ⟨⟨_, rfl, rfl⟩, ⟨_, rfl, rfl⟩, ⟨_, rfl, rfl⟩, ⟨_, rfl, rfl⟩, ⟨_, rfl, rfl⟩, ⟨_, rfl, rfl⟩, ⟨_, rfl, rfl⟩, ⟨_, rfl, rfl⟩, ⟨_, rfl, rfl⟩, ⟨_, rfl, ⟨rfl, rfl, rfl, fun _ hi => absurd hi (Nat.not_lt_zero _)⟩⟩, ⟨_, rfl, ⟨rfl, rfl, rfl, fun _ hi => absurd hi (Nat.not_lt_zero _)⟩⟩, trivial⟩) ?_
          rintro ⟨i, hin, hj⟩
          refine evC_go0 (dec := []) (ks := [(0, 1), (0, 4), (0, 5), (0, 6), (0, 9), (0, 10), (0, 35), (0, 36), (0, 37), (0, 38), (1, 0), (2, 0)]) (s' := ⟨[(0, 1, Cont.cell (AV.rs 4 m false (blowC g))), (0, 4, Cont.cell AV.nils), (0, 5, Cont.cell AV.nils), (0, 6, Cont.cell (AV.int IntKind.i64 0)), (0, 9, Cont.cell (AV.vs 1)), (0, 10, Cont.cell (AV.vs 2)), (0, 35, Cont.cell (AV.rs 3 n false (bodyC f))), (0, 36, Cont.cell (AV.int IntKind.i64 (↑n : Int))), (0, 37, Cont.cell (AV.int IntKind.i64 (↑i : Int))), (0, 38, Cont.cell (AV.bool (decide ((↑i : Int) < (↑n : Int))))), (1, 0, Cont.vec 3 38 i (outC f g m)), (2, 0, Cont.vec 1 3 (List.length (deadL f g m i)) (lst (deadL f g m i)))], 11, 91⟩) (by kernel_rfl) (by kernel_rfl) ?_
          refine evC_seq ?_
          refine evC_if (q := decide ((↑i : Int) < (↑n : Int))) (by kernel_rfl) (fun hc => ?_) (fun hc => ?_)
          · have hlt : (i : Int) < (n : Int) := of_decide_eq_true hc
            clear hc
            refine evC_skip ?_
            refine then_normal ?_
            refine evC_seq ?_
            refine evC_block ?_
            refine evC_go (dec := []) (ks := [(0, 1), (0, 4), (0, 5), (0, 6), (0, 9), (0, 10), (0, 11), (0, 12), (0, 35), (0, 36), (0, 37), (1, 0), (2, 0), (35, 0), (35, 1), (35, 2), (35, 3)]) (ps := [(0 : Int) ≤ (↑i : Int), (↑i : Int) < (↑n : Int), (3 : Nat) = (3 : Nat)]) (s' := ⟨[(0, 1, Cont.cell (AV.rs 4 m false (blowC g))), (0, 4, Cont.cell AV.nils), (0, 5, Cont.cell AV.nils), (0, 6, Cont.cell (AV.int IntKind.i64 0)), (0, 9, Cont.cell (AV.vs 1)), (0, 10, Cont.cell (AV.vs 2)), (0, 11, Cont.cell (AV.int IntKind.i64 (↑i : Int))), (0, 12, Cont.cell (AV.ptr 35 0)), (0, 35, Cont.cell (AV.rs 3 n false (bodyC f))), (0, 36, Cont.cell (AV.int IntKind.i64 (↑n : Int))), (0, 37, Cont.cell (AV.int IntKind.i64 (↑i : Int))), (1, 0, Cont.vec 3 38 i (outC f g m)), (2, 0, Cont.vec 1 3 (List.length (deadL f g m i)) (lst (deadL f g m i))), (35, 0, Cont.cell (AV.int IntKind.i64 (cv 0 (f (Int.toNat (↑i : Int)))))), (35, 1, Cont.cell (AV.int IntKind.i64 (cv 1 (f (Int.toNat (↑i : Int)))))), (35, 2, Cont.cell (AV.int IntKind.i64 (cv 2 (f (Int.toNat (↑i : Int)))))), (35, 3, Cont.top)], 59, 91⟩) (by kernel_rfl) (by kernel_rfl) ?_ ?_
            · exact ⟨by omega, hlt, rfl⟩
            refine evC_seq ?_
            refine evC_go0 (dec := []) (ks := [(0, 1), (0, 4), (0, 5), (0, 6), (0, 9), (0, 10), (0, 11), (0, 12), (0, 35), (0, 36), (0, 37), (0, 57), (1, 0), (2, 0), (35, 0), (35, 1), (35, 2), (35, 3)]) (s' := ⟨[(0, 1, Cont.cell (AV.rs 4 m false (blowC g))), (0, 4, Cont.cell AV.nils), (0, 5, Cont.cell AV.nils), (0, 6, Cont.cell (AV.int IntKind.i64 0)), (0, 9, Cont.cell (AV.vs 1)), (0, 10, Cont.cell (AV.vs 2)), (0, 11, Cont.cell (AV.int IntKind.i64 (↑i : Int))), (0, 12, Cont.cell (AV.ptr 35 0)), (0, 35, Cont.cell (AV.rs 3 n false (bodyC f))), (0, 36, Cont.cell (AV.int IntKind.i64 (↑n : Int))), (0, 37, Cont.cell (AV.int IntKind.i64 (↑i : Int))), (0, 57, Cont.cell (AV.bool (bif bif !span (cv 0 (f (Int.toNat (↑i : Int)))) (cv 1 (f (Int.toNat (↑i : Int)))) then true else decide (cv 2 (f (Int.toNat (↑i : Int))) < 0) then true else decide (cv 2 (f (Int.toNat (↑i : Int))) > 9999)))), (1, 0, Cont.vec 3 38 i (outC f g m)), (2, 0, Cont.vec 1 3 (List.length (deadL f g m i)) (lst (deadL f g m i))), (35, 0, Cont.cell (AV.int IntKind.i64 (cv 0 (f (Int.toNat (↑i : Int)))))), (35, 1, Cont.cell (AV.int IntKind.i64 (cv 1 (f (Int.toNat (↑i : Int)))))), (35, 2, Cont.cell (AV.int IntKind.i64 (cv 2 (f (Int.toNat (↑i : Int)))))), (35, 3, Cont.top)], 187, 91⟩) (by kernel_rfl) (by kernel_rfl) ?_
            refine evC_if (q := bif bif !span (cv 0 (f (Int.toNat (↑i : Int)))) (cv 1 (f (Int.toNat (↑i : Int)))) then true else decide (cv 2 (f (Int.toNat (↑i : Int))) < 0) then true else decide (cv 2 (f (Int.toNat (↑i : Int))) > 9999)) (by kernel_rfl) (fun hc => ?_) (fun hc => ?_)
            · have hf : mX (f i) = false := by
                simp only [Int.toNat_natCast, mayX_hc] at hc
                simpa [mX] using hc
              have hok : okAll n f m g = false := by simp only [okAll]; rw [all_false (n := n) (i := i) (by omega) hf]; simp
              rw [hok]
              simp only [cond_false]
              refine evC_go0 (dec := []) (ks := [(0, 1), (0, 4), (0, 5), (0, 6), (0, 9), (0, 10), (0, 11), (0, 12), (0, 35), (0, 36), (0, 37), (1, 0), (2, 0), (35, 0), (35, 1), (35, 2), (35, 3)]) (s' := ⟨[(0, 1, Cont.cell (AV.rs 4 m false (blowC g))), (0, 4, Cont.cell AV.nils), (0, 5, Cont.cell AV.nils), (0, 6, Cont.cell (AV.int IntKind.i64 1)), (0, 9, Cont.cell (AV.vs 1)), (0, 10, Cont.cell (AV.vs 2)), (0, 11, Cont.cell (AV.int IntKind.i64 (↑i : Int))), (0, 12, Cont.cell (AV.ptr 35 0)), (0, 35, Cont.cell (AV.rs 3 n false (bodyC f))), (0, 36, Cont.cell (AV.int IntKind.i64 (↑n : Int))), (0, 37, Cont.cell (AV.int IntKind.i64 (↑i : Int))), (1, 0, Cont.vec 3 38 i (outC f g m)), (2, 0, Cont.vec 1 3 (List.length (deadL f g m i)) (lst (deadL f g m i))), (35, 0, Cont.cell (AV.int IntKind.i64 (cv 0 (f (Int.toNat (↑i : Int)))))), (35, 1, Cont.cell (AV.int IntKind.i64 (cv 1 (f (Int.toNat (↑i : Int)))))), (35, 2, Cont.cell (AV.int IntKind.i64 (cv 2 (f (Int.toNat (↑i : Int)))))), (35, 3, Cont.top)], 211, 91⟩) (by kernel_rfl) (by kernel_rfl) ?_
              refine evC_wk _ (.nil 0 4 3 38 (fun _ => .nils) (Nat.le_of_ble_eq_true rfl) rfl) ?_
              refine evC_wk _ (.nil 0 5 1 3 (fun _ => .nils) (Nat.le_of_ble_eq_true rfl) rfl) ?_
              refine evC_ret ?_
              refine then_ret ?_
              refine block_ret ?_
              refine then_ret ?_
              refine round_ret ?_
              refine block_ret ?_
              refine then_ret ?_
              refine post_ret ?_
              refine ends_go [211, 212] (AV.tup [AV.vs 1, AV.vs 2, AV.int IntKind.i64 1]) [(1, 0, Cont.vec 3 38 0 fun x => AV.nils), (2, 0, Cont.vec 1 3 0 fun x => AV.nils)] rfl (by decide) rfl rfl (has_of _ rfl) rfl ⟨⟨_, rfl, ⟨rfl, rfl, rfl, fun _ _ => rfl⟩⟩, ⟨_, rfl, ⟨rfl, rfl, rfl, fun _ _ => rfl⟩⟩, trivial⟩ ⟨⟨1, _, rfl, rfl, rfl, ⟨rfl, rfl, rfl, fun _ hi => absurd hi (Nat.not_lt_zero _)⟩⟩, ⟨2, _, rfl, rfl, rfl, ⟨rfl, rfl, rfl, fun _ hi => absurd hi (Nat.not_lt_zero _)⟩⟩, trivial⟩ (kept_nil _)
            · have hf : mX (f i) = true := by
                simp only [Int.toNat_natCast, mayX_hc] at hc
                simpa [mX] using hc
              clear hc
              have hb : 0 ≤ cv 2 (f i) ∧ cv 2 (f i) ≤ 9999 := by
                simp only [mX, mayX, Bool.and_eq_true, inR_iff] at hf
                exact hf.2
              refine evC_skip ?_
              refine then_normal ?_
              refine evC_go0 (dec := []) (ks := [(0, 1), (0, 4), (0, 5), (0, 6), (0, 9), (0, 10), (0, 11), (0, 12), (0, 13), (0, 35), (0, 36), (0, 37), (1, 0), (2, 0), (35, 0), (35, 1), (35, 2), (35, 3), (203, 0), (203, 1)]) (s' := ⟨[(0, 1, Cont.cell (AV.rs 4 m false (blowC g))), (0, 4, Cont.cell AV.nils), (0, 5, Cont.cell AV.nils), (0, 6, Cont.cell (AV.int IntKind.i64 0)), (0, 9, Cont.cell (AV.vs 1)), (0, 10, Cont.cell (AV.vs 2)), (0, 11, Cont.cell (AV.int IntKind.i64 (↑i : Int))), (0, 12, Cont.cell (AV.ptr 35 0)), (0, 13, Cont.cell (AV.ptr 203 0)), (0, 35, Cont.cell (AV.rs 3 n false (bodyC f))), (0, 36, Cont.cell (AV.int IntKind.i64 (↑n : Int))), (0, 37, Cont.cell (AV.int IntKind.i64 (↑i : Int))), (1, 0, Cont.vec 3 38 i (outC f g m)), (2, 0, Cont.vec 1 3 (List.length (deadL f g m i)) (lst (deadL f g m i))), (35, 0, Cont.cell (AV.int IntKind.i64 (cv 0 (f (Int.toNat (↑i : Int)))))), (35, 1, Cont.cell (AV.int IntKind.i64 (cv 1 (f (Int.toNat (↑i : Int)))))), (35, 2, Cont.cell (AV.int IntKind.i64 (cv 2 (f (Int.toNat (↑i : Int)))))), (35, 3, Cont.top), (203, 0, Cont.cell (AV.int IntKind.i64 (cv 2 (f (Int.toNat (↑i : Int)))))), (203, 1, Cont.top)], 219, 91⟩) (by kernel_rfl) (by kernel_rfl) ?_
              refine evC_go0 (dec := []) (ks := [(0, 1), (0, 4), (0, 5), (0, 6), (0, 9), (0, 10), (0, 11), (0, 12), (0, 13), (0, 14), (0, 35), (0, 36), (0, 37), (1, 0), (2, 0), (35, 0), (35, 1), (35, 2), (35, 3), (203, 0), (203, 1)]) (s' := ⟨[(0, 1, Cont.cell (AV.rs 4 m false (blowC g))), (0, 4, Cont.cell AV.nils), (0, 5, Cont.cell AV.nils), (0, 6, Cont.cell (AV.int IntKind.i64 0)), (0, 9, Cont.cell (AV.vs 1)), (0, 10, Cont.cell (AV.vs 2)), (0, 11, Cont.cell (AV.int IntKind.i64 (↑i : Int))), (0, 12, Cont.cell (AV.ptr 35 0)), (0, 13, Cont.cell (AV.ptr 203 0)), (0, 14, Cont.cell (AV.fn 18 [AV.ptr 203 0, AV.ptr 35 0])), (0, 35, Cont.cell (AV.rs 3 n false (bodyC f))), (0, 36, Cont.cell (AV.int IntKind.i64 (↑n : Int))), (0, 37, Cont.cell (AV.int IntKind.i64 (↑i : Int))), (1, 0, Cont.vec 3 38 i (outC f g m)), (2, 0, Cont.vec 1 3 (List.length (deadL f g m i)) (lst (deadL f g m i))), (35, 0, Cont.cell (AV.int IntKind.i64 (cv 0 (f (Int.toNat (↑i : Int)))))), (35, 1, Cont.cell (AV.int IntKind.i64 (cv 1 (f (Int.toNat (↑i : Int)))))), (35, 2, Cont.cell (AV.int IntKind.i64 (cv 2 (f (Int.toNat (↑i : Int)))))), (35, 3, Cont.top), (203, 0, Cont.cell (AV.int IntKind.i64 (cv 2 (f (Int.toNat (↑i : Int)))))), (203, 1, Cont.top)], 235, 91⟩) (by kernel_rfl) (by kernel_rfl) ?_
              refine evC_seq ?_
              refine evC_go0 (dec := []) (ks := [(0, 1), (0, 4), (0, 5), (0, 6), (0, 9), (0, 10), (0, 11), (0, 12), (0, 13), (0, 14), (0, 35), (0, 36), (0, 37), (0, 61), (0, 62), (0, 63), (1, 0), (2, 0), (35, 0), (35, 1), (35, 2), (35, 3), (203, 0), (203, 1)]) (s' := ⟨[(0, 1, Cont.cell (AV.rs 4 m false (blowC g))), (0, 4, Cont.cell AV.nils), (0, 5, Cont.cell AV.nils), (0, 6, Cont.cell (AV.int IntKind.i64 0)), (0, 9, Cont.cell (AV.vs 1)), (0, 10, Cont.cell (AV.vs 2)), (0, 11, Cont.cell (AV.int IntKind.i64 (↑i : Int))), (0, 12, Cont.cell (AV.ptr 35 0)), (0, 13, Cont.cell (AV.ptr 203 0)), (0, 14, Cont.cell (AV.fn 18 [AV.ptr 203 0, AV.ptr 35 0])), (0, 35, Cont.cell (AV.rs 3 n false (bodyC f))), (0, 36, Cont.cell (AV.int IntKind.i64 (↑n : Int))), (0, 37, Cont.cell (AV.int IntKind.i64 (↑i : Int))), (0, 61, Cont.cell (AV.rs 4 m false (blowC g))), (0, 62, Cont.cell (AV.int IntKind.i64 (↑m : Int))), (0, 63, Cont.cell (AV.int IntKind.i64 0)), (1, 0, Cont.vec 3 38 i (outC f g m)), (2, 0, Cont.vec 1 3 (List.length (deadL f g m i)) (lst (deadL f g m i))), (35, 0, Cont.cell (AV.int IntKind.i64 (cv 0 (f (Int.toNat (↑i : Int)))))), (35, 1, Cont.cell (AV.int IntKind.i64 (cv 1 (f (Int.toNat (↑i : Int)))))), (35, 2, Cont.cell (AV.int IntKind.i64 (cv 2 (f (Int.toNat (↑i : Int)))))), (35, 3, Cont.top), (203, 0, Cont.cell (AV.int IntKind.i64 (cv 2 (f (Int.toNat (↑i : Int)))))), (203, 1, Cont.top)], 259, 91⟩) (by kernel_rfl) (by kernel_rfl) ?_
              simp only [Int.toNat_natCast]
              refine evC_block ?_
              refine evC_loop (ι := { k : Nat // k ≤ m }) (fun x => ⟨[(0, 1, Cont.cell (AV.rs 4 m false (blowC g))), (0, 4, Cont.cell AV.nils), (0, 5, Cont.cell AV.nils), (0, 6, Cont.cell (AV.int IntKind.i64 0)), (0, 9, Cont.cell (AV.vs 1)), (0, 10, Cont.cell (AV.vs 2)), (0, 11, Cont.cell (AV.int IntKind.i64 (↑i : Int))), (0, 12, Cont.cell (AV.ptr 3 0)), (0, 13, Cont.cell (AV.ptr 4 0)), (0, 14, Cont.cell (AV.fn 18 [AV.ptr 4 0, AV.ptr 3 0])), (0, 35, Cont.cell (AV.rs 3 n false (bodyC f))), (0, 36, Cont.cell (AV.int IntKind.i64 (↑n : Int))), (0, 37, Cont.cell (AV.int IntKind.i64 (↑i : Int))), (0, 61, Cont.cell (AV.rs 4 m false (blowC g))), (0, 62, Cont.cell (AV.int IntKind.i64 (↑m : Int))), (0, 63, .cell (.int .i64 (x.1 : Nat))), (1, 0, Cont.vec 3 38 i (outC f g m)), (2, 0, Cont.vec 1 3 (List.length (deadL f g m i)) (lst (deadL f g m i))), (3, 0, Cont.cell (AV.int IntKind.i64 (cv 0 (f i)))), (3, 1, Cont.cell (AV.int IntKind.i64 (cv 1 (f i)))), (3, 2, Cont.cell (AV.int IntKind.i64 (cv 2 (f i)))), (3, 3, Cont.top), (4, 0, .cell (.int .i64 (hitN g (cv 0 (f i)) (cv 1 (f i)) (cv 2 (f i)) x.1))), (4, 1, Cont.top)], 5, 91⟩) (fun x => m - x.1) ⟨0, Nat.zero_le _⟩ (wk_go [1, 2, 35, 203] rfl (by decide) rfl rfl ⟨⟨_, rfl, rfl⟩, ⟨_, rfl, rfl⟩, ⟨_, rfl, rfl⟩, ⟨_, rfl, rfl⟩, ⟨_, rfl, rfl⟩, ⟨_, rfl, rfl⟩, ⟨_, rfl, rfl⟩, ⟨_, rfl, rfl⟩, ⟨_, rfl, rfl⟩, ⟨_, rfl, rfl⟩, ⟨_, rfl, rfl⟩, ⟨_, rfl, rfl⟩, ⟨_, rfl, rfl⟩, ⟨_, rfl, rfl⟩, ⟨_, rfl, rfl⟩, ⟨_, rfl, rfl⟩, ⟨_, rfl, rfl, rfl, rfl, fun _ _ => rfl⟩, ⟨_, rfl, rfl, rfl, rfl, fun _ _ => rfl⟩, ⟨_, rfl, rfl⟩, ⟨_, rfl, rfl⟩, ⟨_, rfl, rfl⟩, ⟨_, rfl, trivial⟩, ⟨_, rfl, rfl⟩, ⟨_, rfl, trivial⟩, trivial⟩) ?_
              rintro ⟨k, hkm⟩
              have hk0 := hitN_bound g (cv 0 (f i)) (cv 1 (f i)) (cv 2 (f i)) hb k
              refine evC_go0 (dec := []) (ks := [(0, 1), (0, 4), (0, 5), (0, 6), (0, 9), (0, 10), (0, 11), (0, 12), (0, 13), (0, 14), (0, 35), (0, 36), (0, 37), (0, 61), (0, 62), (0, 63), (0, 64), (1, 0), (2, 0), (3, 0), (3, 1), (3, 2), (3, 3), (4, 0), (4, 1)]) (s' := ⟨[(0, 1, Cont.cell (AV.rs 4 m false (blowC g))), (0, 4, Cont.cell AV.nils), (0, 5, Cont.cell AV.nils), (0, 6, Cont.cell (AV.int IntKind.i64 0)), (0, 9, Cont.cell (AV.vs 1)), (0, 10, Cont.cell (AV.vs 2)), (0, 11, Cont.cell (AV.int IntKind.i64 (↑i : Int))), (0, 12, Cont.cell (AV.ptr 3 0)), (0, 13, Cont.cell (AV.ptr 4 0)), (0, 14, Cont.cell (AV.fn 18 [AV.ptr 4 0, AV.ptr 3 0])), (0, 35, Cont.cell (AV.rs 3 n false (bodyC f))), (0, 36, Cont.cell (AV.int IntKind.i64 (↑n : Int))), (0, 37, Cont.cell (AV.int IntKind.i64 (↑i : Int))), (0, 61, Cont.cell (AV.rs 4 m false (blowC g))), (0, 62, Cont.cell (AV.int IntKind.i64 (↑m : Int))), (0, 63, Cont.cell (AV.int IntKind.i64 (↑k : Int))), (0, 64, Cont.cell (AV.bool (decide ((↑k : Int) < (↑m : Int))))), (1, 0, Cont.vec 3 38 i (outC f g m)), (2, 0, Cont.vec 1 3 (List.length (deadL f g m i)) (lst (deadL f g m i))), (3, 0, Cont.cell (AV.int IntKind.i64 (cv 0 (f i)))), (3, 1, Cont.cell (AV.int IntKind.i64 (cv 1 (f i)))), (3, 2, Cont.cell (AV.int IntKind.i64 (cv 2 (f i)))), (3, 3, Cont.top), (4, 0, Cont.cell (AV.int IntKind.i64 (hitN g (cv 0 (f i)) (cv 1 (f i)) (cv 2 (f i)) k))), (4, 1, Cont.top)], 13, 91⟩) (by kernel_rfl) (by kernel_rfl) ?_
              refine evC_seq ?_
              refine evC_if (q := decide ((↑k : Int) < (↑m : Int))) (by kernel_rfl) (fun hc => ?_) (fun hc => ?_)
              · have hlt : (k : Int) < (m : Int) := of_decide_eq_true hc
                clear hc
                refine evC_skip ?_
                refine then_normal ?_
                refine evC_seq ?_
                refine evC_block ?_
                refine evC_go (dec := []) (ks := [(0, 1), (0, 4), (0, 5), (0, 6), (0, 9), (0, 10), (0, 11), (0, 12), (0, 13), (0, 14), (0, 16), (0, 35), (0, 36), (0, 37), (0, 61), (0, 62), (0, 63), (1, 0), (2, 0), (3, 0), (3, 1), (3, 2), (3, 3), (4, 0), (4, 1), (29, 0), (29, 1), (29, 2), (29, 3), (29, 4)]) (ps := [(0 : Int) ≤ (↑k : Int), (↑k : Int) < (↑m : Int), (4 : Nat) = (4 : Nat)]) (s' := ⟨[(0, 1, Cont.cell (AV.rs 4 m false (blowC g))), (0, 4, Cont.cell AV.nils), (0, 5, Cont.cell AV.nils), (0, 6, Cont.cell (AV.int IntKind.i64 0)), (0, 9, Cont.cell (AV.vs 1)), (0, 10, Cont.cell (AV.vs 2)), (0, 11, Cont.cell (AV.int IntKind.i64 (↑i : Int))), (0, 12, Cont.cell (AV.ptr 3 0)), (0, 13, Cont.cell (AV.ptr 4 0)), (0, 14, Cont.cell (AV.fn 18 [AV.ptr 4 0, AV.ptr 3 0])), (0, 16, Cont.cell (AV.ptr 29 0)), (0, 35, Cont.cell (AV.rs 3 n false (bodyC f))), (0, 36, Cont.cell (AV.int IntKind.i64 (↑n : Int))), (0, 37, Cont.cell (AV.int IntKind.i64 (↑i : Int))), (0, 61, Cont.cell (AV.rs 4 m false (blowC g))), (0, 62, Cont.cell (AV.int IntKind.i64 (↑m : Int))), (0, 63, Cont.cell (AV.int IntKind.i64 (↑k : Int))), (1, 0, Cont.vec 3 38 i (outC f g m)), (2, 0, Cont.vec 1 3 (List.length (deadL f g m i)) (lst (deadL f g m i))), (3, 0, Cont.cell (AV.int IntKind.i64 (cv 0 (f i)))), (3, 1, Cont.cell (AV.int IntKind.i64 (cv 1 (f i)))), (3, 2, Cont.cell (AV.int IntKind.i64 (cv 2 (f i)))), (3, 3, Cont.top), (4, 0, Cont.cell (AV.int IntKind.i64 (hitN g (cv 0 (f i)) (cv 1 (f i)) (cv 2 (f i)) k))), (4, 1, Cont.top), (29, 0, Cont.cell (AV.int IntKind.i64 (cv 0 (g (Int.toNat (↑k : Int)))))), (29, 1, Cont.cell (AV.int IntKind.i64 (cv 1 (g (Int.toNat (↑k : Int)))))), (29, 2, Cont.cell (AV.int IntKind.i64 (cv 2 (g (Int.toNat (↑k : Int)))))), (29, 3, Cont.cell (AV.int IntKind.i64 (cv 3 (g (Int.toNat (↑k : Int)))))), (29, 4, Cont.top)], 45, 91⟩) (by kernel_rfl) (by kernel_rfl) ?_ ?_
                · exact ⟨by omega, hlt, rfl⟩
                refine evC_goL (dec := []) (ks := [(0, 1), (0, 4), (0, 5), (0, 6), (0, 9), (0, 10), (0, 11), (0, 12), (0, 13), (0, 14), (0, 35), (0, 36), (0, 37), (0, 61), (0, 62), (0, 63), (1, 0), (2, 0), (3, 0), (3, 1), (3, 2), (3, 3), (4, 0), (4, 1)]) (ps := [(4 : Nat) ≠ (3 : Nat) ∧ (0 : Nat) < (4 : Nat) ∧ (0 : Nat) < (3 : Nat) ∧ (0 : Int) ≤ hitN g (cv (0 : Nat) (f i)) (cv (1 : Nat) (f i)) (cv (2 : Nat) (f i)) k ∧ hitN g (cv (0 : Nat) (f i)) (cv (1 : Nat) (f i)) (cv (2 : Nat) (f i)) k < (2 : Int) ^ (62 : Nat)]) (s' := ⟨[(0, 1, Cont.cell (AV.rs 4 m false (blowC g))), (0, 4, Cont.cell AV.nils), (0, 5, Cont.cell AV.nils), (0, 6, Cont.cell (AV.int IntKind.i64 0)), (0, 9, Cont.cell (AV.vs 1)), (0, 10, Cont.cell (AV.vs 2)), (0, 11, Cont.cell (AV.int IntKind.i64 (↑i : Int))), (0, 12, Cont.cell (AV.ptr 3 0)), (0, 13, Cont.cell (AV.ptr 4 0)), (0, 14, Cont.cell (AV.fn 18 [AV.ptr 4 0, AV.ptr 3 0])), (0, 35, Cont.cell (AV.rs 3 n false (bodyC f))), (0, 36, Cont.cell (AV.int IntKind.i64 (↑n : Int))), (0, 37, Cont.cell (AV.int IntKind.i64 (↑i : Int))), (0, 61, Cont.cell (AV.rs 4 m false (blowC g))), (0, 62, Cont.cell (AV.int IntKind.i64 (↑m : Int))), (0, 63, Cont.cell (AV.int IntKind.i64 (↑k : Int))), (1, 0, Cont.vec 3 38 i (outC f g m)), (2, 0, Cont.vec 1 3 (List.length (deadL f g m i)) (lst (deadL f g m i))), (3, 0, Cont.cell (AV.int IntKind.i64 (cv 0 (f i)))), (3, 1, Cont.cell (AV.int IntKind.i64 (cv 1 (f i)))), (3, 2, Cont.cell (AV.int IntKind.i64 (cv 2 (f i)))), (3, 3, Cont.top), (4, 0, Cont.cell (AV.int IntKind.i64 (mx2 0 (hitN g (cv 0 (f i)) (cv 1 (f i)) (cv 2 (f i)) k - hurtsF (cv 0 (g (Int.toNat (↑k : Int)))) (cv 1 (g (Int.toNat (↑k : Int)))) (cv 2 (g (Int.toNat (↑k : Int)))) (cv 3 (g (Int.toNat (↑k : Int)))) (cv 0 (f i)) (cv 1 (f i)))))), (4, 1, Cont.top)], 69, 91⟩) (by kernel_rfl) (by kernel_rfl) ?_ ?_
                · exact ⟨by decide, by decide, by decide, by omega, by omega⟩
                refine block_normal ?_
                refine then_normal ?_
                refine evC_goL0 (dec := []) (ks := [(0, 1), (0, 4), (0, 5), (0, 6), (0, 9), (0, 10), (0, 11), (0, 12), (0, 13), (0, 14), (0, 35), (0, 36), (0, 37), (0, 61), (0, 62), (0, 63), (1, 0), (2, 0), (3, 0), (3, 1), (3, 2), (3, 3), (4, 0), (4, 1)]) (s' := ⟨[(0, 1, Cont.cell (AV.rs 4 m false (blowC g))), (0, 4, Cont.cell AV.nils), (0, 5, Cont.cell AV.nils), (0, 6, Cont.cell (AV.int IntKind.i64 0)), (0, 9, Cont.cell (AV.vs 1)), (0, 10, Cont.cell (AV.vs 2)), (0, 11, Cont.cell (AV.int IntKind.i64 (↑i : Int))), (0, 12, Cont.cell (AV.ptr 3 0)), (0, 13, Cont.cell (AV.ptr 4 0)), (0, 14, Cont.cell (AV.fn 18 [AV.ptr 4 0, AV.ptr 3 0])), (0, 35, Cont.cell (AV.rs 3 n false (bodyC f))), (0, 36, Cont.cell (AV.int IntKind.i64 (↑n : Int))), (0, 37, Cont.cell (AV.int IntKind.i64 (↑i : Int))), (0, 61, Cont.cell (AV.rs 4 m false (blowC g))), (0, 62, Cont.cell (AV.int IntKind.i64 (↑m : Int))), (0, 63, Cont.cell (AV.int IntKind.i64 (IntKind.i64.wrap ((↑k : Int) + 1)))), (1, 0, Cont.vec 3 38 i (outC f g m)), (2, 0, Cont.vec 1 3 (List.length (deadL f g m i)) (lst (deadL f g m i))), (3, 0, Cont.cell (AV.int IntKind.i64 (cv 0 (f i)))), (3, 1, Cont.cell (AV.int IntKind.i64 (cv 1 (f i)))), (3, 2, Cont.cell (AV.int IntKind.i64 (cv 2 (f i)))), (3, 3, Cont.top), (4, 0, Cont.cell (AV.int IntKind.i64 (mx2 0 (hitN g (cv 0 (f i)) (cv 1 (f i)) (cv 2 (f i)) k - hurtsF (cv 0 (g (Int.toNat (↑k : Int)))) (cv 1 (g (Int.toNat (↑k : Int)))) (cv 2 (g (Int.toNat (↑k : Int)))) (cv 3 (g (Int.toNat (↑k : Int)))) (cv 0 (f i)) (cv 1 (f i)))))), (4, 1, Cont.top)], 85, 91⟩) (by kernel_rfl) (by kernel_rfl) ?_
                rw [wrap_add_one (by omega : k < m) (by omega)]
                refine round_normal (⟨k + 1, by omega⟩) (wk_go [1, 2, 3, 4] rfl (by decide) rfl rfl ⟨⟨_, rfl, rfl⟩, ⟨_, rfl, rfl⟩, ⟨_, rfl, rfl⟩, ⟨_, rfl, rfl⟩, ⟨_, rfl, rfl⟩, ⟨_, rfl, rfl⟩, ⟨_, rfl, rfl⟩, ⟨_, rfl, rfl⟩, ⟨_, rfl, rfl⟩, ⟨_, rfl, rfl⟩, ⟨_, rfl, rfl⟩, ⟨_, rfl, rfl⟩, ⟨_, rfl, rfl⟩, ⟨_, rfl, rfl⟩, ⟨_, rfl, rfl⟩, ⟨_, rfl, rfl⟩, ⟨_, rfl, ⟨rfl, rfl, rfl, fun _ _ => rfl⟩⟩, ⟨_, rfl, ⟨rfl, rfl, rfl, fun _ _ => rfl⟩⟩, ⟨_, rfl, rfl⟩, ⟨_, rfl, rfl⟩, ⟨_, rfl, rfl⟩, ⟨_, rfl, trivial⟩, ⟨_, rfl, rfl⟩, ⟨_, rfl, trivial⟩, trivial⟩) ?_
                show m - (k + 1) < m - k; omega
              · have hlt : ¬ (k : Int) < (m : Int) := of_decide_eq_false hc
                have : k = m := by omega
                subst this
                clear hc
                rw [hitN_eq _ _ _ _ hb.1] at hk0 ⊢
                have hdl := deadL_len f g k i
                refine evC_exit ?_
                refine then_exit ?_
                refine round_exit ?_
                refine block_exit ?_
                refine then_normal ?_
                refine evC_seq ?_
                refine evC_go0 (dec := []) (ks := [(0, 1), (0, 4), (0, 5), (0, 6), (0, 9), (0, 10), (0, 11), (0, 12), (0, 13), (0, 35), (0, 36), (0, 37), (0, 77), (1, 0), (2, 0), (3, 0), (3, 1), (3, 2), (3, 3), (4, 0), (4, 1)]) (s' := ⟨[(0, 1, Cont.cell (AV.rs 4 k false (blowC g))), (0, 4, Cont.cell AV.nils), (0, 5, Cont.cell AV.nils), (0, 6, Cont.cell (AV.int IntKind.i64 0)), (0, 9, Cont.cell (AV.vs 1)), (0, 10, Cont.cell (AV.vs 2)), (0, 11, Cont.cell (AV.int IntKind.i64 (↑i : Int))), (0, 12, Cont.cell (AV.ptr 3 0)), (0, 13, Cont.cell (AV.ptr 4 0)), (0, 35, Cont.cell (AV.rs 3 n false (bodyC f))), (0, 36, Cont.cell (AV.int IntKind.i64 (↑n : Int))), (0, 37, Cont.cell (AV.int IntKind.i64 (↑i : Int))), (0, 77, Cont.cell (AV.bool (bif leftF g k (cv 0 (f i)) (cv 1 (f i)) (cv 2 (f i)) == 0 then decide (cv 2 (f i) > 0) else false))), (1, 0, Cont.vec 3 38 i (outC f g k)), (2, 0, Cont.vec 1 3 (List.length (deadL f g k i)) (lst (deadL f g k i))), (3, 0, Cont.cell (AV.int IntKind.i64 (cv 0 (f i)))), (3, 1, Cont.cell (AV.int IntKind.i64 (cv 1 (f i)))), (3, 2, Cont.cell (AV.int IntKind.i64 (cv 2 (f i)))), (3, 3, Cont.top), (4, 0, Cont.cell (AV.int IntKind.i64 (leftF g k (cv 0 (f i)) (cv 1 (f i)) (cv 2 (f i))))), (4, 1, Cont.top)], 69, 91⟩) (by kernel_rfl) (by kernel_rfl) ?_
                refine evC_cutThen (ι := Unit) (fun _ => ⟨[(0, 1, Cont.cell (AV.rs 4 k false (blowC g))), (0, 4, Cont.cell AV.nils), (0, 5, Cont.cell AV.nils), (0, 6, Cont.cell (AV.int IntKind.i64 0)), (0, 9, Cont.cell (AV.vs 1)), (0, 10, Cont.cell (AV.vs 2)), (0, 11, Cont.cell (AV.int IntKind.i64 (↑i : Int))), (0, 12, Cont.cell (AV.ptr 3 0)), (0, 13, Cont.cell (AV.ptr 4 0)), (0, 35, Cont.cell (AV.rs 3 n false (bodyC f))), (0, 36, Cont.cell (AV.int IntKind.i64 (↑n : Int))), (0, 37, Cont.cell (AV.int IntKind.i64 (↑i : Int))), (0, 77, Cont.cell (AV.bool (bif leftF g k (cv 0 (f i)) (cv 1 (f i)) (cv 2 (f i)) == 0 then decide (cv 2 (f i) > 0) else false))), (1, 0, Cont.vec 3 38 i (outC f g k)), (2, 0, .vec 1 3 (deadL f g k (i + 1)).length (lst (deadL f g k (i + 1)))), (3, 0, Cont.cell (AV.int IntKind.i64 (cv 0 (f i)))), (3, 1, Cont.cell (AV.int IntKind.i64 (cv 1 (f i)))), (3, 2, Cont.cell (AV.int IntKind.i64 (cv 2 (f i)))), (3, 3, Cont.top), (4, 0, Cont.cell (AV.int IntKind.i64 (leftF g k (cv 0 (f i)) (cv 1 (f i)) (cv 2 (f i))))), (4, 1, Cont.top)], 5, 91⟩) ?_ ?_
                · refine evC_if (q := bif leftF g k (cv 0 (f i)) (cv 1 (f i)) (cv 2 (f i)) == 0 then decide (cv 2 (f i) > 0) else false) (by kernel_rfl) (fun hc => ?_) (fun hc => ?_)
                  · have hd : lf g k (f i) = 0 ∧ 0 < cv 2 (f i) := by simpa [lf] using hc
                    clear hc
                    refine evC_goL (dec := []) (ks := [(0, 1), (0, 4), (0, 5), (0, 6), (0, 9), (0, 10), (0, 11), (0, 12), (0, 13), (0, 35), (0, 36), (0, 37), (0, 77), (1, 0), (3, 0), (3, 1), (3, 2), (3, 3), (4, 0), (4, 1), (93, 0)]) (ps := [(List.length (deadL f g k i) + (1 : Nat)) * (8 : Nat) ≤ (140737488355328 : Nat), List.length (deadL f g k i) + (1 : Nat) ≤ maxLen, (1 : Nat) = (0 : Nat) ∨ (1 : Nat) = (1 : Nat), (1 : Nat) = (1 : Nat), (3 : Nat) = (3 : Nat)]) (s' := ⟨[(0, 1, Cont.cell (AV.rs 4 k false (blowC g))), (0, 4, Cont.cell AV.nils), (0, 5, Cont.cell AV.nils), (0, 6, Cont.cell (AV.int IntKind.i64 0)), (0, 9, Cont.cell (AV.vs 1)), (0, 10, Cont.cell (AV.vs 93)), (0, 11, Cont.cell (AV.int IntKind.i64 (↑i : Int))), (0, 12, Cont.cell (AV.ptr 3 0)), (0, 13, Cont.cell (AV.ptr 4 0)), (0, 35, Cont.cell (AV.rs 3 n false (bodyC f))), (0, 36, Cont.cell (AV.int IntKind.i64 (↑n : Int))), (0, 37, Cont.cell (AV.int IntKind.i64 (↑i : Int))), (0, 77, Cont.cell (AV.bool (bif leftF g k (cv 0 (f i)) (cv 1 (f i)) (cv 2 (f i)) == 0 then decide (cv 2 (f i) > 0) else false))), (1, 0, Cont.vec 3 38 i (outC f g k)), (3, 0, Cont.cell (AV.int IntKind.i64 (cv 0 (f i)))), (3, 1, Cont.cell (AV.int IntKind.i64 (cv 1 (f i)))), (3, 2, Cont.cell (AV.int IntKind.i64 (cv 2 (f i)))), (3, 3, Cont.top), (4, 0, Cont.cell (AV.int IntKind.i64 (leftF g k (cv 0 (f i)) (cv 1 (f i)) (cv 2 (f i))))), (4, 1, Cont.top), (93, 0, Cont.vec 1 3 (List.length (deadL f g k i) + 1) (catF (List.length (deadL f g k i)) (lst (deadL f g k i)) (pget [(0, AV.int IntKind.i64 (↑i : Int))])))], 109, 91⟩) (by kernel_rfl) (by kernel_rfl) ?_ ?_
                    · refine ⟨?_, ?_, .inr rfl, rfl, rfl⟩ <;> (try unfold maxLen) <;> omega
                    skip
                    refine cut_normal (()) (wk_go [1, 93, 3, 4] rfl (by decide) rfl rfl ⟨⟨_, rfl, rfl⟩, ⟨_, rfl, rfl⟩, ⟨_, rfl, rfl⟩, ⟨_, rfl, rfl⟩, ⟨_, rfl, rfl⟩, ⟨_, rfl, rfl⟩, ⟨_, rfl, rfl⟩, ⟨_, rfl, rfl⟩, ⟨_, rfl, rfl⟩, ⟨_, rfl, rfl⟩, ⟨_, rfl, rfl⟩, ⟨_, rfl, rfl⟩, ⟨_, rfl, rfl⟩, ⟨_, rfl, ⟨rfl, rfl, rfl, fun _ _ => rfl⟩⟩, ⟨_, rfl, ?_⟩, ⟨_, rfl, rfl⟩, ⟨_, rfl, rfl⟩, ⟨_, rfl, rfl⟩, ⟨_, rfl, trivial⟩, ⟨_, rfl, rfl⟩, ⟨_, rfl, trivial⟩, trivial⟩)
                    rw [deadL_yes hd]
                    exact ⟨rfl, rfl, by simp, fun j hj => catF_lst rfl j (by simpa using hj)⟩
                  · have hd : ¬ (lf g k (f i) = 0 ∧ 0 < cv 2 (f i)) := by
                      intro h
                      have h1 : leftF g k (cv 0 (f i)) (cv 1 (f i)) (cv 2 (f i)) = 0 := h.1
                      simp [h1, h.2] at hc
                    clear hc
                    refine evC_skip ?_
                    refine cut_normal (()) (wk_go [1, 2, 3, 4] rfl (by decide) rfl rfl ⟨⟨_, rfl, rfl⟩, ⟨_, rfl, rfl⟩, ⟨_, rfl, rfl⟩, ⟨_, rfl, rfl⟩, ⟨_, rfl, rfl⟩, ⟨_, rfl, rfl⟩, ⟨_, rfl, rfl⟩, ⟨_, rfl, rfl⟩, ⟨_, rfl, rfl⟩, ⟨_, rfl, rfl⟩, ⟨_, rfl, rfl⟩, ⟨_, rfl, rfl⟩, ⟨_, rfl, rfl⟩, ⟨_, rfl, ⟨rfl, rfl, rfl, fun _ _ => rfl⟩⟩, ⟨_, rfl, ?_⟩, ⟨_, rfl, rfl⟩, ⟨_, rfl, rfl⟩, ⟨_, rfl, rfl⟩, ⟨_, rfl, trivial⟩, ⟨_, rfl, rfl⟩, ⟨_, rfl, trivial⟩, trivial⟩)
                    rw [deadL_no hd]
                    exact ⟨rfl, rfl, rfl, fun _ _ => rfl⟩
                intro _
                refine evC_go0 (dec := []) (ks := [(0, 1), (0, 4), (0, 5), (0, 6), (0, 9), (0, 10), (0, 12), (0, 35), (0, 36), (0, 37), (1, 0), (2, 0), (3, 0), (3, 1), (3, 2), (3, 3)]) (s' := ⟨[(0, 1, Cont.cell (AV.rs 4 k false (blowC g))), (0, 4, Cont.cell AV.nils), (0, 5, Cont.cell AV.nils), (0, 6, Cont.cell (AV.int IntKind.i64 0)), (0, 9, Cont.cell (AV.vs 1)), (0, 10, Cont.cell (AV.vs 2)), (0, 12, Cont.cell (AV.ptr 3 0)), (0, 35, Cont.cell (AV.rs 3 n false (bodyC f))), (0, 36, Cont.cell (AV.int IntKind.i64 (↑n : Int))), (0, 37, Cont.cell (AV.int IntKind.i64 (↑i : Int))), (1, 0, Cont.vec 3 38 i (outC f g k)), (2, 0, Cont.vec 1 3 (List.length (deadL f g k (i + 1))) (lst (deadL f g k (i + 1)))), (3, 0, Cont.cell (AV.int IntKind.i64 (cv 0 (f i)))), (3, 1, Cont.cell (AV.int IntKind.i64 (cv 1 (f i)))), (3, 2, Cont.cell (AV.int IntKind.i64 (leftF g k (cv 0 (f i)) (cv 1 (f i)) (cv 2 (f i))))), (3, 3, Cont.top)], 29, 91⟩) (by kernel_rfl) (by kernel_rfl) ?_
                refine evC_goL (dec := []) (ks := [(0, 1), (0, 4), (0, 5), (0, 6), (0, 9), (0, 10), (0, 35), (0, 36), (0, 37), (2, 0), (53, 0)]) (ps := [(i + (1 : Nat)) * (24 : Nat) ≤ (140737488355328 : Nat), i + (1 : Nat) ≤ maxLen, (1 : Nat) = (0 : Nat) ∨ (3 : Nat) = (3 : Nat), (3 : Nat) = (3 : Nat), (38 : Nat) = (38 : Nat)]) (s' := ⟨[(0, 1, Cont.cell (AV.rs 4 k false (blowC g))), (0, 4, Cont.cell AV.nils), (0, 5, Cont.cell AV.nils), (0, 6, Cont.cell (AV.int IntKind.i64 0)), (0, 9, Cont.cell (AV.vs 53)), (0, 10, Cont.cell (AV.vs 2)), (0, 35, Cont.cell (AV.rs 3 n false (bodyC f))), (0, 36, Cont.cell (AV.int IntKind.i64 (↑n : Int))), (0, 37, Cont.cell (AV.int IntKind.i64 (↑i : Int))), (2, 0, Cont.vec 1 3 (List.length (deadL f g k (i + 1))) (lst (deadL f g k (i + 1)))), (53, 0, Cont.vec 3 38 (i + 1) (catF i (outC f g k) (pget [(0, AV.agg [AV.int IntKind.i64 (cv 0 (f i)), AV.int IntKind.i64 (cv 1 (f i)), AV.int IntKind.i64 (leftF g k (cv 0 (f i)) (cv 1 (f i)) (cv 2 (f i)))])])))], 69, 91⟩) (by kernel_rfl) (by kernel_rfl) ?_ ?_
                · refine ⟨?_, ?_, .inr rfl, rfl, rfl⟩ <;> (try unfold maxLen) <;> omega
                refine block_normal ?_
                refine then_normal ?_
                refine evC_goL0 (dec := []) (ks := [(0, 1), (0, 4), (0, 5), (0, 6), (0, 9), (0, 10), (0, 35), (0, 36), (0, 37), (2, 0), (53, 0)]) (s' := ⟨[(0, 1, Cont.cell (AV.rs 4 k false (blowC g))), (0, 4, Cont.cell AV.nils), (0, 5, Cont.cell AV.nils), (0, 6, Cont.cell (AV.int IntKind.i64 0)), (0, 9, Cont.cell (AV.vs 53)), (0, 10, Cont.cell (AV.vs 2)), (0, 35, Cont.cell (AV.rs 3 n false (bodyC f))), (0, 36, Cont.cell (AV.int IntKind.i64 (↑n : Int))), (0, 37, Cont.cell (AV.int IntKind.i64 (IntKind.i64.wrap ((↑i : Int) + 1)))), (2, 0, Cont.vec 1 3 (List.length (deadL f g k (i + 1))) (lst (deadL f g k (i + 1)))), (53, 0, Cont.vec 3 38 (i + 1) (catF i (outC f g k) (pget [(0, AV.agg [AV.int IntKind.i64 (cv 0 (f i)), AV.int IntKind.i64 (cv 1 (f i)), AV.int IntKind.i64 (leftF g k (cv 0 (f i)) (cv 1 (f i)) (cv 2 (f i)))])])))], 85, 91⟩) (by kernel_rfl) (by kernel_rfl) ?_
                rw [wrap_add_one (by omega : i < n) (by omega)]
                refine round_normal (⟨i + 1, by omega, fun j hj' => ?_⟩) (wk_go [53, 2] rfl (by decide) rfl rfl ⟨⟨_, rfl, rfl⟩, ⟨_, rfl, rfl⟩, ⟨_, rfl, rfl⟩, ⟨_, rfl, rfl⟩, ⟨_, rfl, rfl⟩, ⟨_, rfl, rfl⟩, ⟨_, rfl, rfl⟩, ⟨_, rfl, rfl⟩, ⟨_, rfl, rfl⟩, ⟨_, rfl, ?_⟩, ⟨_, rfl, ⟨rfl, rfl, rfl, fun _ _ => rfl⟩⟩, trivial⟩) ?_
                · rcases Nat.lt_or_ge j i with h | h
                  · exact hj j h
                  · have : j = i := by omega
                    subst this; exact hf
                · exact ⟨rfl, rfl, rfl, fun j hj => catF_snoc (n := i) (F := outC f g k) rfl j hj⟩
                · show n - (i + 1) < n - i; omega
          · have hlt : ¬ (i : Int) < (n : Int) := of_decide_eq_false hc
            have : i = n := by omega
            subst this
            have hall2 : (List.range i).all (fun i => mX (f i)) = true := all_true fun j hj' => hj j (by omega)
            have hok : okAll i f m g = true := by simp [okAll, hall, hall2, hnm.1, hnm.2]
            rw [hok]
            simp only [cond_true]
            refine evC_exit ?_
            refine then_exit ?_
            refine round_exit ?_
            refine block_exit ?_
            refine then_normal ?_
            refine evC_go0 (dec := []) (ks := [(0, 4), (0, 5), (0, 6), (1, 0), (2, 0)]) (s' := ⟨[(0, 4, Cont.cell (AV.vs 1)), (0, 5, Cont.cell (AV.vs 2)), (0, 6, Cont.cell (AV.int IntKind.i64 0)), (1, 0, Cont.vec 3 38 i (outC f g m)), (2, 0, Cont.vec 1 3 (List.length (deadL f g m i)) (lst (deadL f g m i)))], 51, 91⟩) (by kernel_rfl) (by kernel_rfl) ?_
            refine evC_ret ?_
            refine post_ret ?_
            refine ends_go [1, 2] (AV.tup [AV.vs 1, AV.vs 2, AV.int IntKind.i64 0]) [(1, 0, Cont.vec 3 38 i (outC f g m)), (2, 0, Cont.vec 1 3 (List.length (deadL f g m i)) (lst (deadL f g m i)))] rfl (by decide) rfl rfl (has_of _ rfl) rfl ⟨⟨_, rfl, ⟨rfl, rfl, rfl, fun _ _ => rfl⟩⟩, ⟨_, rfl, ⟨rfl, rfl, rfl, fun _ _ => rfl⟩⟩, trivial⟩ ⟨⟨1, _, rfl, rfl, rfl, ⟨rfl, rfl, rfl, fun _ _ => ⟨has_of _ rfl, rfl⟩⟩⟩, ⟨2, _, rfl, rfl, rfl, ⟨rfl, rfl, rfl, fun _ _ => ⟨has_of _ rfl, rfl⟩⟩⟩, trivial⟩ (kept_nil _)
    · cases e
  · cases e
end Go.Eng.S18
