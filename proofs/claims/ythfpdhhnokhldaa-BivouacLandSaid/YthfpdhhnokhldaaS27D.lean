/- Seat top, land: corners, heights, walked. -/
import Derived.Test.YthfpdhhnokhldaaEngX
import Derived.Test.YthfpdhhnokhldaaS27C
set_option linter.unusedSimpArgs false
set_option linter.unusedVariables false
namespace Go.Eng.S27
open Go.Proofs Go.IntWalk
set_option maxRecDepth 10000

/-- Where a cell's first corner lies. -/
def crn (W i j : Int) : Nat := ((W + 1) * j + i).toNat
def cornV (W : Int) (u : Nat → Int) (i j : Int) : AV := .agg [.int .i64 (u (crn W i j)), .int .i64 (u (crn W i j + 1)), .int .i64 (u (crn W i j + (W + 1).toNat)), .int .i64 (u (crn W i j + (W + 1).toNat + 1))]
theorem crn_rng {W H A : Int} {n : Nat} (h : chk W H A n = 0) {i j : Int} (hi : 0 ≤ i ∧ i < W) (hj : 0 ≤ j ∧ j < H) : 0 ≤ (W + 1) * j + i ∧ (W + 1) * j + i + W + 2 < n + 0 + 1 ∧ (crn W i j : Int) = (W + 1) * j + i ∧ crn W i j + (W + 1).toNat + 1 < n := by
  obtain ⟨h1, h2⟩ := chk_get h
  obtain ⟨r1, r2, r3, r4, r5⟩ := rightD_get h1
  have h3 := Int.mul_nonneg (by omega : 0 ≤ W + 1) hj.1
  have h4 := Int.mul_le_mul_of_nonneg_left (by omega : j ≤ H - 1) (by omega : 0 ≤ W + 1)
  have h5 : (W + 1) * (H + 1) = (W + 1) * (H - 1) + 2 * (W + 1) := by
    have : H + 1 = (H - 1) + 2 := by omega
    rw [this, Int.mul_add]; omega
  unfold crn
  refine ⟨by omega, by omega, by omega, by omega⟩
def sCorn : Spec := fun args hr _ => match args with
  | [.agg [.int .i64 W, .int .i64 H, .int .i64 A, v], .int .i64 i, .int .i64 j] => match sl 1 hr v with
    | some (n, f, rd) => some ⟨[IsU n f, chk W H A n = 0, (0 ≤ i ∧ i < W) ∧ 0 ≤ j ∧ j < H], cornV W (U f) i j, rd, []⟩
    | none => none
  | _ => none
theorem corn_ok : SpecOK Try.prog 23 sCorn := by
  refine spec_own (by kernel_rfl) T_ok sget_nil Try.func23 rfl rfl fun args hr nb out e => ?_
  unfold sCorn at e
  split at e
  · rename_i W H A v i j
    split at e
    · rename_i n f rd hs1
      injection e with e; subst e
      refine ⟨fun x hx => sl_rd hs1 x hx, false, [mp4 W H A n (U f), .int .i64 i, .int .i64 j], rfl, fun hs => ?_⟩
      have h1 := hs _ List.mem_cons_self
      have h2 := hs _ (List.mem_cons_of_mem _ List.mem_cons_self)
      obtain ⟨hi, hj⟩ := hs _ (List.mem_cons_of_mem _ (List.mem_cons_of_mem _ List.mem_cons_self))
      refine ⟨map_pass hs1 (fun y hy => ⟨hy, by simp⟩) h1 (.cons _ _ _ _ (.same _ _ (.int _ _)) (.cons _ _ _ _ (.same _ _ (.int _ _)) .nil)), ?_⟩
      have hu : ∀ i, i < n → 0 ≤ U f i ∧ U f i ≤ 255 := fun i hi => (h1.get i hi).2
      clear hs h1
      generalize U f = u at hu ⊢
      unfold mp4
      obtain ⟨c1, c2, c3, c4⟩ := crn_rng h2 hi hj
      obtain ⟨g1, g2⟩ := chk_get h2
      obtain ⟨r1, r2, r3, r4, r5⟩ := rightD_get g1
      have hj3 := Int.mul_nonneg (by omega : 0 ≤ W + 1) hj.1
      unfold cornV
      generalize hk : crn W i j = k at c3 c4 ⊢
      refine evC_go0 (dec := []) (ks := [(0, 1), (0, 2), (0, 3), (0, 6), (1, 0), (1, 1), (1, 2), (1, 3), (1, 4), (9, 0), (9, 1), (9, 2), (9, 3), (9, 4)]) (s' := ⟨[(0, 1, Cont.cell (AV.int IntKind.i64 i)), (0, 2, Cont.cell (AV.int IntKind.i64 j)), (0, 3, Cont.cell (AV.ptr 1 0)), (0, 6, Cont.cell (AV.ptr 9 0)), (1, 0, Cont.cell (AV.int IntKind.i64 W)), (1, 1, Cont.cell (AV.int IntKind.i64 H)), (1, 2, Cont.cell (AV.int IntKind.i64 A)), (1, 3, Cont.cell (AV.rs 1 n false (nU u))), (1, 4, Cont.top), (9, 0, Cont.cell (AV.int IntKind.i64 0)), (9, 1, Cont.cell (AV.int IntKind.i64 0)), (9, 2, Cont.cell (AV.int IntKind.i64 0)), (9, 3, Cont.cell (AV.int IntKind.i64 0)), (9, 4, Cont.top)], 17, 48⟩) (by kernel_rfl) (by kernel_rfl) ?_
      refine evC_go0 (dec := []) (ks := [(0, 3), (0, 6), (0, 7), (1, 0), (1, 1), (1, 2), (1, 3), (1, 4), (9, 0), (9, 1), (9, 2), (9, 3), (9, 4)]) (s' := ⟨[(0, 3, Cont.cell (AV.ptr 1 0)), (0, 6, Cont.cell (AV.ptr 9 0)), (0, 7, Cont.cell (AV.int IntKind.i64 (IntKind.i64.wrap (IntKind.i64.wrap (IntKind.i64.wrap (W + 1) * j) + i)))), (1, 0, Cont.cell (AV.int IntKind.i64 W)), (1, 1, Cont.cell (AV.int IntKind.i64 H)), (1, 2, Cont.cell (AV.int IntKind.i64 A)), (1, 3, Cont.cell (AV.rs 1 n false (nU u))), (1, 4, Cont.top), (9, 0, Cont.cell (AV.int IntKind.i64 0)), (9, 1, Cont.cell (AV.int IntKind.i64 0)), (9, 2, Cont.cell (AV.int IntKind.i64 0)), (9, 3, Cont.cell (AV.int IntKind.i64 0)), (9, 4, Cont.top)], 81, 48⟩) (by kernel_rfl) (by kernel_rfl) ?_
      rw [i64_in (W + 1) (by omega), i64_in ((W + 1) * j) (by omega), i64_in ((W + 1) * j + i) (by omega), ← c3]
      refine evC_go0 (dec := []) (ks := [(0, 3), (0, 6), (0, 7), (0, 8), (1, 0), (1, 1), (1, 2), (1, 3), (1, 4), (9, 0), (9, 1), (9, 2), (9, 3), (9, 4)]) (s' := ⟨[(0, 3, Cont.cell (AV.ptr 1 0)), (0, 6, Cont.cell (AV.ptr 9 0)), (0, 7, Cont.cell (AV.int IntKind.i64 (↑k : Int))), (0, 8, Cont.cell (AV.int IntKind.i64 (IntKind.i64.wrap (IntKind.i64.wrap ((↑k : Int) + W) + 1)))), (1, 0, Cont.cell (AV.int IntKind.i64 W)), (1, 1, Cont.cell (AV.int IntKind.i64 H)), (1, 2, Cont.cell (AV.int IntKind.i64 A)), (1, 3, Cont.cell (AV.rs 1 n false (nU u))), (1, 4, Cont.top), (9, 0, Cont.cell (AV.int IntKind.i64 0)), (9, 1, Cont.cell (AV.int IntKind.i64 0)), (9, 2, Cont.cell (AV.int IntKind.i64 0)), (9, 3, Cont.cell (AV.int IntKind.i64 0)), (9, 4, Cont.top)], 129, 48⟩) (by kernel_rfl) (by kernel_rfl) ?_
      obtain ⟨w, hw⟩ := Int.eq_ofNat_of_zero_le (by omega : 0 ≤ W)
      subst hw
      have e1 : ((w : Int) + 1).toNat = w + 1 := rfl
      rw [e1] at c4 ⊢
      rw [i64_in ((k : Int) + (w : Int)) (by omega), i64_in ((k : Int) + (w : Int) + 1) (by omega)]
      have e2 : ((k : Int) + (w : Int) + 1) = ((k + (w + 1) : Nat) : Int) := by omega
      rw [e2]
      have e3 : IntKind.i64.wrap ((k : Int) + 1) = ((k + 1 : Nat) : Int) := by rw [i64_in _ (by omega)]; rfl
      have e4 : IntKind.i64.wrap (((k + (w + 1) : Nat) : Int) + 1) = ((k + (w + 1) + 1 : Nat) : Int) := by rw [i64_in _ (by omega)]; rfl
      refine evC_go (dec := []) (ks := [(0, 6), (9, 0), (9, 1), (9, 2), (9, 3), (9, 4)]) (ps := [(0 : Int) ≤ (↑k : Int), (↑k : Int) < (↑n : Int), (1 : Nat) = (1 : Nat), (0 : Int) ≤ IntKind.i64.wrap ((↑k : Int) + (1 : Int)), IntKind.i64.wrap ((↑k : Int) + (1 : Int)) < (↑n : Int), (1 : Nat) = (1 : Nat), (0 : Int) ≤ (↑(k + (w + (1 : Nat))) : Int), (↑(k + (w + (1 : Nat))) : Int) < (↑n : Int), (1 : Nat) = (1 : Nat), (0 : Int) ≤ IntKind.i64.wrap ((↑(k + (w + (1 : Nat))) : Int) + (1 : Int)), IntKind.i64.wrap ((↑(k + (w + (1 : Nat))) : Int) + (1 : Int)) < (↑n : Int), (1 : Nat) = (1 : Nat)]) (s' := ⟨[(0, 6, Cont.cell (AV.ptr 9 0)), (9, 0, Cont.cell (AV.int IntKind.i64 (IntKind.i64.wrap (u k)))), (9, 1, Cont.cell (AV.int IntKind.i64 (IntKind.i64.wrap (u (Int.toNat (IntKind.i64.wrap ((↑k : Int) + 1))))))), (9, 2, Cont.cell (AV.int IntKind.i64 (IntKind.i64.wrap (u (k + (w + 1)))))), (9, 3, Cont.cell (AV.int IntKind.i64 (IntKind.i64.wrap (u (Int.toNat (IntKind.i64.wrap ((↑(k + (w + 1)) : Int) + 1))))))), (9, 4, Cont.top)], 353, 48⟩) (by kernel_rfl) (by kernel_rfl) ?_ ?_
      · rw [e3, e4]
        (simp only [All]; (repeat' apply And.intro) <;> (try intro _) <;> (try intro _) <;> (repeat' apply And.intro) <;> (try intro _) <;> (try intro _) <;> first | trivial | assumption | exact .inr trivial | exact .inr rfl | omega | rfl | exact ⟨_, rfl, rfl⟩ | exact ⟨rfl, rfl⟩ | exact ⟨fun _ => rfl, fun _ => rfl⟩ | (unfold maxLen; omega) | (unfold i64R; first | omega | decide) | decide)
      rw [e3, e4]
      simp only [Int.toNat_natCast]
      have b0 := hu k (by omega)
      have b1 := hu (k + 1) (by omega)
      have b2 := hu (k + (w + 1)) (by omega)
      have b3 := hu (k + (w + 1) + 1) (by omega)
      rw [i64_in (u k) (by omega), i64_in (u (k + 1)) (by omega), i64_in (u (k + (w + 1))) (by omega), i64_in (u (k + (w + 1) + 1)) (by omega)]
      refine evC_ret ?_
      refine post_ret ?_
      refine ends_flat (vs := [AV.agg [AV.int IntKind.i64 (u k), AV.int IntKind.i64 (u (k + 1)), AV.int IntKind.i64 (u (k + (w + 1))), AV.int IntKind.i64 (u (k + (w + 1) + 1))]]) (Nat.zero_lt_succ _) (by kernel_rfl) (flat_of _ (by kernel_rfl)) rfl ?_
      rfl
    · cases e
  · cases e

/-- The height at a place, out of the corners. -/
def hgt (W : Int) (u : Nat → Int) (x y : Int) : Int :=
  ((u (crn W (x / 65536) (y / 65536)) * (65536 - x % 65536) + u (crn W (x / 65536) (y / 65536) + 1) * (x % 65536)) * (65536 - y % 65536) +
    (u (crn W (x / 65536) (y / 65536) + (W + 1).toNat) * (65536 - x % 65536) + u (crn W (x / 65536) (y / 65536) + (W + 1).toNat + 1) * (x % 65536)) * (y % 65536)) / 65536
def hgtE (W H A : Int) (n : Nat) (x y : Int) : Int := bif chk W H A n != 0 then 1 else bif !onB W H A n x y then 4 else 0
def hgtV (W H A : Int) (n : Nat) (u : Nat → Int) (x y : Int) : Int := bif chk W H A n != 0 then 0 else bif !onB W H A n x y then 0 else hgt W u x y
def sHeight : Spec := fun args hr _ => match args with
  | [.agg [.int .i64 W, .int .i64 H, .int .i64 A, v], .int .i64 x, .int .i64 y] => match sl 1 hr v with
    | some (n, f, rd) => some ⟨[IsU n f], .tup [.int .i64 (hgtV W H A n (U f) x y), .int .i64 (hgtE W H A n x y)], rd, []⟩
    | none => none
  | _ => none
theorem onB_get {W H A : Int} {n : Nat} {x y : Int} (h : onB W H A n x y = true) : chk W H A n = 0 ∧ (0 ≤ x ∧ x < W * 65536) ∧ 0 ≤ y ∧ y < H * 65536 := by
  unfold onB at h
  simp only [Bool.and_eq_true, decide_eq_true_eq] at h
  exact ⟨h.1.1.1.1, ⟨h.1.1.1.2, h.1.1.2⟩, h.1.2, h.2⟩
theorem lerp_bd {a b t : Int} {m : Int} (ha : 0 ≤ a ∧ a ≤ m) (hb : 0 ≤ b ∧ b ≤ m) (ht : 0 ≤ t ∧ t < 65536) : (0 ≤ a * (65536 - t) ∧ a * (65536 - t) ≤ m * 65536) ∧ (0 ≤ b * t ∧ b * t ≤ m * 65536) ∧ 0 ≤ a * (65536 - t) + b * t ∧ a * (65536 - t) + b * t ≤ m * 65536 := by
  have h1 := mul_le_of (a := a) (b := 65536 - t) (m := m) (n := 65536) ha ⟨by omega, by omega⟩
  have h2 := mul_le_of (a := b) (b := t) (m := m) (n := 65536) hb ⟨by omega, by omega⟩
  have h3 := Int.mul_le_mul_of_nonneg_right ha.2 (by omega : 0 ≤ 65536 - t)
  have h4 := Int.mul_le_mul_of_nonneg_right hb.2 ht.1
  have h5 : m * (65536 - t) + m * t = m * 65536 := by rw [← Int.mul_add]; congr 1; omega
  omega
theorem height_ok : SpecOK Try.prog 9 sHeight := by
  refine spec_own (by kernel_rfl) T_ok (sget_cons check_ok (sget_cons on_ok (sget_cons corn_ok (sget_cons whole_ok (sget_cons part_ok sget_nil))))) Try.func9 rfl rfl fun args hr nb out e => ?_
  unfold sHeight at e
  split at e
  · rename_i W H A v x y
    split at e
    · rename_i n f rd hs1
      injection e with e; subst e
      refine ⟨fun x hx => sl_rd hs1 x hx, false, [mp4 W H A n (U f), .int .i64 x, .int .i64 y], rfl, fun hs => ?_⟩
      have h1 := hs _ List.mem_cons_self
      refine ⟨map_pass hs1 (fun y hy => ⟨hy, by simp⟩) h1 (.cons _ _ _ _ (.same _ _ (.int _ _)) (.cons _ _ _ _ (.same _ _ (.int _ _)) .nil)), ?_⟩
      have hu : ∀ i, i < n → 0 ≤ U f i ∧ U f i ≤ 255 := fun i hi => (h1.get i hi).2
      clear hs h1
      generalize U f = u at hu ⊢
      have i1 : IsU n (nU u) := isU hu
      have eV : hgtV W H A n u x y = bif chk W H A n != 0 then 0 else bif !onB W H A n x y then 0 else hgt W u x y := rfl
      have eE : hgtE W H A n x y = bif chk W H A n != 0 then 1 else bif !onB W H A n x y then 4 else 0 := rfl
      rw [eV, eE]
      clear eV eE
      unfold mp4
      refine evC_go0 (dec := []) (ks := [(0, 1), (0, 2), (0, 3), (0, 6), (0, 7), (1, 0), (1, 1), (1, 2), (1, 3), (1, 4)]) (s' := ⟨[(0, 1, Cont.cell (AV.int IntKind.i64 x)), (0, 2, Cont.cell (AV.int IntKind.i64 y)), (0, 3, Cont.cell (AV.ptr 1 0)), (0, 6, Cont.cell (AV.int IntKind.i64 0)), (0, 7, Cont.cell (AV.int IntKind.i64 0)), (1, 0, Cont.cell (AV.int IntKind.i64 W)), (1, 1, Cont.cell (AV.int IntKind.i64 H)), (1, 2, Cont.cell (AV.int IntKind.i64 A)), (1, 3, Cont.cell (AV.rs 1 n false (nU u))), (1, 4, Cont.top)], 25, 60⟩) (by kernel_rfl) (by kernel_rfl) ?_
      refine evC_seq ?_
      refine evC_go (dec := []) (ks := [(0, 1), (0, 2), (0, 3), (0, 6), (0, 7), (0, 15), (1, 0), (1, 1), (1, 2), (1, 3), (1, 4)]) (ps := [IsU n (nU u)]) (s' := ⟨[(0, 1, Cont.cell (AV.int IntKind.i64 x)), (0, 2, Cont.cell (AV.int IntKind.i64 y)), (0, 3, Cont.cell (AV.ptr 1 0)), (0, 6, Cont.cell (AV.int IntKind.i64 0)), (0, 7, Cont.cell (AV.int IntKind.i64 0)), (0, 15, Cont.cell (AV.bool (chk W H A n != 0))), (1, 0, Cont.cell (AV.int IntKind.i64 W)), (1, 1, Cont.cell (AV.int IntKind.i64 H)), (1, 2, Cont.cell (AV.int IntKind.i64 A)), (1, 3, Cont.cell (AV.rs 1 n false (nU u))), (1, 4, Cont.top)], 49, 60⟩) (by kernel_rfl) (by kernel_rfl) ?_ ?_
      · exact i1
      refine evC_if (q := chk W H A n != 0) (by kernel_rfl) (fun hc => ?_) (fun hc => ?_)
      · rw [hc]
        refine evC_go0 (dec := []) (ks := [(0, 1), (0, 2), (0, 3), (0, 6), (0, 7), (1, 0), (1, 1), (1, 2), (1, 3), (1, 4)]) (s' := ⟨[(0, 1, Cont.cell (AV.int IntKind.i64 x)), (0, 2, Cont.cell (AV.int IntKind.i64 y)), (0, 3, Cont.cell (AV.ptr 1 0)), (0, 6, Cont.cell (AV.int IntKind.i64 0)), (0, 7, Cont.cell (AV.int IntKind.i64 1)), (1, 0, Cont.cell (AV.int IntKind.i64 W)), (1, 1, Cont.cell (AV.int IntKind.i64 H)), (1, 2, Cont.cell (AV.int IntKind.i64 A)), (1, 3, Cont.cell (AV.rs 1 n false (nU u))), (1, 4, Cont.top)], 65, 60⟩) (by kernel_rfl) (by kernel_rfl) ?_
        refine evC_ret ?_
        refine then_ret ?_
        refine post_ret ?_
        refine ends_flat (vs := [AV.int IntKind.i64 0, AV.int IntKind.i64 1]) (Nat.zero_lt_succ _) (by kernel_rfl) (flat_of _ (by kernel_rfl)) rfl ?_
        rfl
      · rw [hc]
        clear hc
        simp only [cond_false]
        refine evC_skip ?_
        refine then_normal ?_
        refine evC_seq ?_
        refine evC_go (dec := []) (ks := [(0, 1), (0, 2), (0, 3), (0, 6), (0, 7), (0, 20), (1, 0), (1, 1), (1, 2), (1, 3), (1, 4)]) (ps := [IsU n (nU u)]) (s' := ⟨[(0, 1, Cont.cell (AV.int IntKind.i64 x)), (0, 2, Cont.cell (AV.int IntKind.i64 y)), (0, 3, Cont.cell (AV.ptr 1 0)), (0, 6, Cont.cell (AV.int IntKind.i64 0)), (0, 7, Cont.cell (AV.int IntKind.i64 0)), (0, 20, Cont.cell (AV.bool !onB W H A n x y)), (1, 0, Cont.cell (AV.int IntKind.i64 W)), (1, 1, Cont.cell (AV.int IntKind.i64 H)), (1, 2, Cont.cell (AV.int IntKind.i64 A)), (1, 3, Cont.cell (AV.rs 1 n false (nU u))), (1, 4, Cont.top)], 89, 60⟩) (by kernel_rfl) (by kernel_rfl) ?_ ?_
        · exact i1
        refine evC_if (q := !onB W H A n x y) (by kernel_rfl) (fun hc => ?_) (fun hc => ?_)
        · rw [hc]
          refine evC_go0 (dec := []) (ks := [(0, 1), (0, 2), (0, 3), (0, 6), (0, 7), (1, 0), (1, 1), (1, 2), (1, 3), (1, 4)]) (s' := ⟨[(0, 1, Cont.cell (AV.int IntKind.i64 x)), (0, 2, Cont.cell (AV.int IntKind.i64 y)), (0, 3, Cont.cell (AV.ptr 1 0)), (0, 6, Cont.cell (AV.int IntKind.i64 0)), (0, 7, Cont.cell (AV.int IntKind.i64 4)), (1, 0, Cont.cell (AV.int IntKind.i64 W)), (1, 1, Cont.cell (AV.int IntKind.i64 H)), (1, 2, Cont.cell (AV.int IntKind.i64 A)), (1, 3, Cont.cell (AV.rs 1 n false (nU u))), (1, 4, Cont.top)], 105, 60⟩) (by kernel_rfl) (by kernel_rfl) ?_
          refine evC_ret ?_
          refine then_ret ?_
          refine post_ret ?_
          refine ends_flat (vs := [AV.int IntKind.i64 0, AV.int IntKind.i64 4]) (Nat.zero_lt_succ _) (by kernel_rfl) (flat_of _ (by kernel_rfl)) rfl ?_
          rfl
        · rw [hc]
          have ho : onB W H A n x y = true := by simpa using hc
          clear hc
          simp only [cond_false]
          obtain ⟨g0, hx, hy⟩ := onB_get ho
          obtain ⟨g1, g2⟩ := chk_get g0
          obtain ⟨r1, r2, r3, r4, r5⟩ := rightD_get g1
          have hix : 0 ≤ x / 65536 ∧ x / 65536 < W := ⟨by omega, by omega⟩
          have hiy : 0 ≤ y / 65536 ∧ y / 65536 < H := ⟨by omega, by omega⟩
          obtain ⟨c1, c2, c3, c4⟩ := crn_rng g0 hix hiy
          refine evC_skip ?_
          refine then_normal ?_
          refine evC_go (dec := []) (ks := [(0, 1), (0, 2), (0, 6), (0, 7), (0, 8), (137, 0), (137, 1), (137, 2), (137, 3), (137, 4)]) (ps := [IsU n (nU u), chk W H A n = (0 : Int), ((0 : Int) ≤ x / (65536 : Int) ∧ x / (65536 : Int) < W) ∧ (0 : Int) ≤ y / (65536 : Int) ∧ y / (65536 : Int) < H]) (s' := ⟨[(0, 1, Cont.cell (AV.int IntKind.i64 x)), (0, 2, Cont.cell (AV.int IntKind.i64 y)), (0, 6, Cont.cell (AV.int IntKind.i64 0)), (0, 7, Cont.cell (AV.int IntKind.i64 0)), (0, 8, Cont.cell (AV.ptr 137 0)), (137, 0, Cont.cell (AV.int IntKind.i64 (U (nU u) (crn W (x / 65536) (y / 65536))))), (137, 1, Cont.cell (AV.int IntKind.i64 (U (nU u) (crn W (x / 65536) (y / 65536) + 1)))), (137, 2, Cont.cell (AV.int IntKind.i64 (U (nU u) (crn W (x / 65536) (y / 65536) + Int.toNat (W + 1))))), (137, 3, Cont.cell (AV.int IntKind.i64 (U (nU u) (crn W (x / 65536) (y / 65536) + Int.toNat (W + 1) + 1)))), (137, 4, Cont.top)], 153, 60⟩) (by kernel_rfl) (by kernel_rfl) ?_ ?_
          · exact ⟨i1, g0, hix, hiy⟩
          rw [U_nU]
          unfold hgt
          generalize crn W (x / 65536) (y / 65536) = k at c3 c4 ⊢
          have b0 := hu k (by omega)
          have b1 := hu (k + 1) (by omega)
          have b2 := hu (k + (W + 1).toNat) (by omega)
          have b3 := hu (k + (W + 1).toNat + 1) (by omega)
          generalize u k = a0 at b0 ⊢
          generalize u (k + 1) = a1 at b1 ⊢
          generalize u (k + (W + 1).toNat) = a2 at b2 ⊢
          generalize u (k + (W + 1).toNat + 1) = a3 at b3 ⊢
          refine evC_go (dec := []) (ks := [(0, 6), (0, 7), (0, 8), (0, 9), (0, 10), (137, 0), (137, 1), (137, 2), (137, 3), (137, 4)]) (ps := [(0 : Int) ≤ x ∧ x < (9223372036854775808 : Int), (0 : Int) ≤ y ∧ y < (9223372036854775808 : Int)]) (s' := ⟨[(0, 6, Cont.cell (AV.int IntKind.i64 0)), (0, 7, Cont.cell (AV.int IntKind.i64 0)), (0, 8, Cont.cell (AV.ptr 137 0)), (0, 9, Cont.cell (AV.int IntKind.i64 (x % 65536))), (0, 10, Cont.cell (AV.int IntKind.i64 (y % 65536))), (137, 0, Cont.cell (AV.int IntKind.i64 a0)), (137, 1, Cont.cell (AV.int IntKind.i64 a1)), (137, 2, Cont.cell (AV.int IntKind.i64 a2)), (137, 3, Cont.cell (AV.int IntKind.i64 a3)), (137, 4, Cont.top)], 201, 60⟩) (by kernel_rfl) (by kernel_rfl) ?_ ?_
          · exact ⟨⟨by omega, by omega⟩, by omega, by omega⟩
          have ht : 0 ≤ x % 65536 ∧ x % 65536 < 65536 := ⟨by omega, by omega⟩
          have hv : 0 ≤ y % 65536 ∧ y % 65536 < 65536 := ⟨by omega, by omega⟩
          generalize x % 65536 = p at ht ⊢
          generalize y % 65536 = q at hv ⊢
          obtain ⟨l1, l2, l3⟩ := lerp_bd (m := 255) b0 b1 ht
          obtain ⟨l4, l5, l6⟩ := lerp_bd (m := 255) b2 b3 ht
          obtain ⟨l7, l8, l9⟩ := lerp_bd (m := 255 * 65536) l3 l6 hv
          have e1 : IntKind.i64.wrap (65536 - p) = 65536 - p := i64_in _ (by omega)
          have e2 : IntKind.i64.wrap (65536 - q) = 65536 - q := i64_in _ (by omega)
          refine evC_go (dec := []) (ks := [(0, 6), (0, 7), (0, 8), (0, 9), (0, 10), (0, 11), (137, 0), (137, 1), (137, 2), (137, 3), (137, 4)]) (ps := [(0 : Int) ≤ (0 : Int), (0 : Int) < (↑(4 : Nat) : Int), (0 : Int) ≤ (1 : Int), (1 : Int) < (↑(4 : Nat) : Int)]) (s' := ⟨[(0, 6, Cont.cell (AV.int IntKind.i64 0)), (0, 7, Cont.cell (AV.int IntKind.i64 0)), (0, 8, Cont.cell (AV.ptr 137 0)), (0, 9, Cont.cell (AV.int IntKind.i64 p)), (0, 10, Cont.cell (AV.int IntKind.i64 q)), (0, 11, Cont.cell (AV.int IntKind.i64 (IntKind.i64.wrap (IntKind.i64.wrap (a0 * IntKind.i64.wrap (65536 - p)) + IntKind.i64.wrap (a1 * p))))), (137, 0, Cont.cell (AV.int IntKind.i64 a0)), (137, 1, Cont.cell (AV.int IntKind.i64 a1)), (137, 2, Cont.cell (AV.int IntKind.i64 a2)), (137, 3, Cont.cell (AV.int IntKind.i64 a3)), (137, 4, Cont.top)], 289, 60⟩) (by kernel_rfl) (by kernel_rfl) ?_ ?_
          · (simp only [All]; (repeat' apply And.intro) <;> (try intro _) <;> (try intro _) <;> (repeat' apply And.intro) <;> (try intro _) <;> (try intro _) <;> first | trivial | assumption | exact .inr trivial | exact .inr rfl | omega | rfl | exact ⟨_, rfl, rfl⟩ | exact ⟨rfl, rfl⟩ | exact ⟨fun _ => rfl, fun _ => rfl⟩ | (unfold maxLen; omega) | (unfold i64R; first | omega | decide) | decide)
          rw [e1, i64_in (a0 * (65536 - p)) (by omega), i64_in (a1 * p) (by omega), i64_in (a0 * (65536 - p) + a1 * p) (by omega)]
          refine evC_go (dec := []) (ks := [(0, 6), (0, 7), (0, 10), (0, 11), (0, 12)]) (ps := [(0 : Int) ≤ (2 : Int), (2 : Int) < (↑(4 : Nat) : Int), (0 : Int) ≤ (3 : Int), (3 : Int) < (↑(4 : Nat) : Int)]) (s' := ⟨[(0, 6, Cont.cell (AV.int IntKind.i64 0)), (0, 7, Cont.cell (AV.int IntKind.i64 0)), (0, 10, Cont.cell (AV.int IntKind.i64 q)), (0, 11, Cont.cell (AV.int IntKind.i64 (a0 * (65536 - p) + a1 * p))), (0, 12, Cont.cell (AV.int IntKind.i64 (IntKind.i64.wrap (IntKind.i64.wrap (a2 * IntKind.i64.wrap (65536 - p)) + IntKind.i64.wrap (a3 * p)))))], 377, 60⟩) (by kernel_rfl) (by kernel_rfl) ?_ ?_
          · (simp only [All]; (repeat' apply And.intro) <;> (try intro _) <;> (try intro _) <;> (repeat' apply And.intro) <;> (try intro _) <;> (try intro _) <;> first | trivial | assumption | exact .inr trivial | exact .inr rfl | omega | rfl | exact ⟨_, rfl, rfl⟩ | exact ⟨rfl, rfl⟩ | exact ⟨fun _ => rfl, fun _ => rfl⟩ | (unfold maxLen; omega) | (unfold i64R; first | omega | decide) | decide)
          rw [e1, i64_in (a2 * (65536 - p)) (by omega), i64_in (a3 * p) (by omega), i64_in (a2 * (65536 - p) + a3 * p) (by omega)]
          generalize a0 * (65536 - p) + a1 * p = t1 at *
          generalize a2 * (65536 - p) + a3 * p = t2 at *
          refine evC_go (dec := []) (ks := [(0, 6), (0, 7)]) (ps := [(0 : Int) ≤ (16 : Int)]) (s' := ⟨[(0, 6, Cont.cell (AV.int IntKind.i64 (Int.fdiv (IntKind.i64.wrap (IntKind.i64.wrap (t1 * IntKind.i64.wrap (65536 - q)) + IntKind.i64.wrap (t2 * q))) (2 ^ min (Int.toNat 16) (IntKind.bits IntKind.i64))))), (0, 7, Cont.cell (AV.int IntKind.i64 0))], 465, 60⟩) (by kernel_rfl) (by kernel_rfl) ?_ ?_
          · (simp only [All]; (repeat' apply And.intro) <;> (try intro _) <;> (try intro _) <;> (repeat' apply And.intro) <;> (try intro _) <;> (try intro _) <;> first | trivial | assumption | exact .inr trivial | exact .inr rfl | omega | rfl | exact ⟨_, rfl, rfl⟩ | exact ⟨rfl, rfl⟩ | exact ⟨fun _ => rfl, fun _ => rfl⟩ | (unfold maxLen; omega) | (unfold i64R; first | omega | decide) | decide)
          rw [e2, i64_in (t1 * (65536 - q)) (by omega), i64_in (t2 * q) (by omega), i64_in (t1 * (65536 - q) + t2 * q) (by omega)]
          refine evC_ret ?_
          refine post_ret ?_
          refine ends_flat (vs := [AV.int IntKind.i64 (Int.fdiv (t1 * (65536 - q) + t2 * q) (2 ^ min (Int.toNat 16) (IntKind.bits IntKind.i64))), AV.int IntKind.i64 0]) (Nat.zero_lt_succ _) (by kernel_rfl) (flat_of _ (by kernel_rfl)) rfl ?_
          refine congrArg (fun z => AV.tup [AV.int .i64 z, AV.int .i64 0]) ?_
          show _ = Int.fdiv _ 65536
          rw [Int.fdiv_eq_ediv_of_nonneg _ (by decide)]
    · cases e
  · cases e
end Go.Eng.S27
