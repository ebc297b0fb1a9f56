/- Seat 13: lands, cells and steps, walked. -/
import Derived.Test.YtmlpggggahpoaaaEngX
import Derived.Test.YtmlpggggahpoaaaS13C
set_option linter.unusedSimpArgs false
set_option linter.unusedVariables false
namespace Go.Eng.S13
open Go.Proofs Go.IntWalk
set_option maxRecDepth 10000

def nB (g : Nat → Bool) : Nat → AV := fun i => .bool (g i)
def Bf (f : Nat → AV) : Nat → Bool := fun i => bv (f i)
theorem nB_flat (g : Nat → Bool) (i : Nat) : Flat (nB g i) := .bool _
structure IsB (n : Nat) (f : Nat → AV) : Prop where
  get : ∀ i, i < n → f i = nB (Bf f) i
theorem isB (n : Nat) (g : Nat → Bool) : IsB n (nB g) := ⟨fun _ _ => rfl⟩
def ld (W H : Int) (n : Nat) (g : Nat → Bool) : AV := .agg [.int .i64 W, .int .i64 H, .rs 1 n false (nB g)]
/-- A land that is handed in. -/
theorem land_pass {hr : Rd} {rdl : List (Nat × Nat × Cont)} {K : List Nat} {nb : Nat} {W H : Int} {v : AV} {n : Nat} {f : Nat → AV} {rd : List (Nat × Nat × Cont)} (e : sl 1 hr v = some (n, f, rd)) (hm : ∀ y ∈ rd, y ∈ rdl ∧ y.1 ∉ K) (h : IsB n f) {vs vs' : List AV} (t : PassL hr rdl K nb false vs vs') :
    PassL hr rdl K nb false (.agg [.int .i64 W, .int .i64 H, v] :: vs) (ld W H n (Bf f) :: vs') := by
  refine .agg _ _ _ _ rfl (fun i a b h1 h2 => ?_) (fun k g hk => ?_) t
  · match i with
    | 0 => cases h1; cases h2; exact .same _ _ (.int _ _)
    | 1 => cases h1; cases h2; exact .same _ _ (.int _ _)
    | 2 => cases h1; cases h2; exact .slice _ _ _ _ _ e hm _ fun i hi => ⟨h.get i hi, (nB_flat _ i).has⟩
    | i + 3 => simp at h1
  · simp only [List.mem_cons, List.not_mem_nil, or_false] at hk
    rcases hk with hk | hk | hk
    · cases hk
    · cases hk
    · rw [← hk] at e; simp [sl] at e
def mayL (W H : Int) (n : Nat) : Bool := inR 1 64 W && inR 1 64 H && ((n : Int) == W * H)
theorem land_mul {W H : Int} (hW : 1 ≤ W ∧ W ≤ 64) (hH : 1 ≤ H ∧ H ≤ 64) : 1 ≤ W * H ∧ W * H ≤ 4096 := by
  have h1 := Int.mul_le_mul_of_nonneg_left hH.1 (by omega : 0 ≤ W)
  have h2 := Int.mul_le_mul_of_nonneg_left hH.2 (by omega : 0 ≤ W)
  omega
theorem may_eq (W H : Int) (n : Nat) : (inR 1 64 W && inR 1 64 H && ((n : Int) == IntKind.i64.wrap (W * H))) = mayL W H n := by
  unfold mayL
  cases h : (inR 1 64 W && inR 1 64 H) with
  | false => rfl
  | true =>
    rw [Bool.and_eq_true, inR_iff, inR_iff] at h
    have := land_mul h.1 h.2
    rw [i64_in (W * H) (by omega)]
theorem may_get {W H : Int} {n : Nat} (h : mayL W H n = true) : (1 ≤ W ∧ W ≤ 64) ∧ (1 ≤ H ∧ H ≤ 64) ∧ (n : Int) = W * H ∧ 1 ≤ n ∧ n ≤ 4096 := by
  unfold mayL at h
  simp only [Bool.and_eq_true, inR_iff, beq_iff_eq] at h
  have := land_mul h.1.1 h.1.2
  exact ⟨h.1.1, h.1.2, h.2, by omega, by omega⟩
theorem cell_rng {W H i j : Int} (hi : 0 ≤ i ∧ i < W) (hj : 0 ≤ j ∧ j < H) : 0 ≤ W * j ∧ 0 ≤ W * j + i ∧ W * j + i < W * H := by
  have h0 := Int.mul_nonneg (by omega : 0 ≤ W) hj.1
  have h1 := Int.mul_le_mul_of_nonneg_left (by omega : j ≤ H - 1) (by omega : 0 ≤ W)
  rw [Int.mul_sub, Int.mul_one] at h1
  omega
def sMay : Spec := fun args hr _ => match args with
  | [.agg [.int .i64 W, .int .i64 H, v]] => match sl 1 hr v with
    | some (n, f, rd) => some ⟨[IsB n f], .bool (mayL W H n), rd, []⟩
    | none => none
  | _ => none
theorem may_ok : SpecOK Try.prog 19 sMay := by
  refine spec_own (by kernel_rfl) T_ok sget_nil Try.func19 rfl rfl fun args hr nb out e => ?_
  unfold sMay at e
  split at e
  · rename_i W H v
    split at e
    · rename_i n f rd hs1
      injection e with e; subst e
      refine ⟨fun x hx => sl_rd hs1 x hx, false, [ld W H n (Bf f)], rfl, fun hs => ?_⟩
      have h1 := hs _ List.mem_cons_self
      refine ⟨land_pass hs1 (fun y hy => ⟨hy, by simp⟩) h1 .nil, ?_⟩
      clear hs h1
      generalize Bf f = g
      unfold ld
      refine evC_go0 (dec := []) (ks := [(0, 1), (0, 2), (1, 0), (1, 1), (1, 2), (1, 3)]) (s' := ⟨[(0, 1, Cont.cell (AV.ptr 1 0)), (0, 2, Cont.cell (AV.bool false)), (1, 0, Cont.cell (AV.int IntKind.i64 W)), (1, 1, Cont.cell (AV.int IntKind.i64 H)), (1, 2, Cont.cell (AV.rs 1 n false (nB g))), (1, 3, Cont.top)], 17, 32⟩) (by kernel_rfl) (by kernel_rfl) ?_
      refine evC_go0 (dec := []) (ks := [(0, 2)]) (s' := ⟨[(0, 2, Cont.cell (AV.bool (bif bif bif bif decide (W ≥ 1) then decide (W ≤ 64) else false then decide (H ≥ 1) else false then decide (H ≤ 64) else false then (↑n : Int) == IntKind.i64.wrap (W * H) else false)))], 257, 32⟩) (by kernel_rfl) (by kernel_rfl) ?_
      refine evC_ret ?_
      refine post_ret ?_
      refine ends_flat (vs := [AV.bool (bif bif bif bif decide (W ≥ 1) then decide (W ≤ 64) else false then decide (H ≥ 1) else false then decide (H ≤ 64) else false then (↑n : Int) == IntKind.i64.wrap (W * H) else false)]) (Nat.zero_lt_succ _) (by kernel_rfl) (flat_of _ (by kernel_rfl)) rfl ?_
      refine congrArg AV.bool ?_
      rw [← may_eq]
      unfold inR
      simp only [cond_and, ge_iff_le, Bool.and_assoc]
    · cases e
  · cases e
theorem refMay_ok : SpecOK Try.prog 10 sMay := by
  refine spec_own (by kernel_rfl) T_ok sget_nil Try.func10 rfl rfl fun args hr nb out e => ?_
  unfold sMay at e
  split at e
  · rename_i W H v
    split at e
    · rename_i n f rd hs1
      injection e with e; subst e
      refine ⟨fun x hx => sl_rd hs1 x hx, false, [ld W H n (Bf f)], rfl, fun hs => ?_⟩
      have h1 := hs _ List.mem_cons_self
      refine ⟨land_pass hs1 (fun y hy => ⟨hy, by simp⟩) h1 .nil, ?_⟩
      clear hs h1
      generalize Bf f = g
      unfold ld
      refine evC_go0 (dec := []) (ks := [(0, 1), (0, 2), (1, 0), (1, 1), (1, 2), (1, 3)]) (s' := ⟨[(0, 1, Cont.cell (AV.ptr 1 0)), (0, 2, Cont.cell (AV.bool false)), (1, 0, Cont.cell (AV.int IntKind.i64 W)), (1, 1, Cont.cell (AV.int IntKind.i64 H)), (1, 2, Cont.cell (AV.rs 1 n false (nB g))), (1, 3, Cont.top)], 17, 32⟩) (by kernel_rfl) (by kernel_rfl) ?_
      refine evC_go0 (dec := []) (ks := [(0, 2)]) (s' := ⟨[(0, 2, Cont.cell (AV.bool (bif bif bif bif decide (1 ≤ W) then decide (W ≤ 64) else false then decide (1 ≤ H) else false then decide (H ≤ 64) else false then (↑n : Int) == IntKind.i64.wrap (W * H) else false)))], 257, 32⟩) (by kernel_rfl) (by kernel_rfl) ?_
      refine evC_ret ?_
      refine post_ret ?_
      refine ends_flat (vs := [AV.bool (bif bif bif bif decide (1 ≤ W) then decide (W ≤ 64) else false then decide (1 ≤ H) else false then decide (H ≤ 64) else false then (↑n : Int) == IntKind.i64.wrap (W * H) else false)]) (Nat.zero_lt_succ _) (by kernel_rfl) (flat_of _ (by kernel_rfl)) rfl ?_
      refine congrArg AV.bool ?_
      rw [← may_eq]
      unfold inR
      simp only [cond_and, ge_iff_le, Bool.and_assoc]
    · cases e
  · cases e
/-- Is there a cell, and is it open? -/
def opF (W H : Int) (g : Nat → Bool) (i j : Int) : Bool := decide (0 ≤ i) && decide (i < W) && decide (0 ≤ j) && decide (j < H) && g (W * j + i).toNat
def sOpen : Spec := fun args hr _ => match args with
  | [.agg [.int .i64 W, .int .i64 H, v], .int .i64 i, .int .i64 j] => match sl 1 hr v with
    | some (n, f, rd) => some ⟨[IsB n f, mayL W H n = true], .bool (opF W H (Bf f) i j), rd, []⟩
    | none => none
  | _ => none
theorem open_ok : SpecOK Try.prog 30 sOpen := by
  refine spec_own (by kernel_rfl) T_ok sget_nil Try.func30 rfl rfl fun args hr nb out e => ?_
  unfold sOpen at e
  split at e
  · rename_i W H v i j
    split at e
    · rename_i n f rd hs1
      injection e with e; subst e
      refine ⟨fun x hx => sl_rd hs1 x hx, false, [ld W H n (Bf f), .int .i64 i, .int .i64 j], rfl, fun hs => ?_⟩
      have h1 := hs _ List.mem_cons_self
      have hm := hs _ (List.mem_cons_of_mem _ List.mem_cons_self)
      refine ⟨land_pass hs1 (fun y hy => ⟨hy, by simp⟩) h1 (.cons _ _ _ _ (.same _ _ (.int _ _)) (.cons _ _ _ _ (.same _ _ (.int _ _)) .nil)), ?_⟩
      clear hs h1
      generalize Bf f = g
      unfold ld
      have key : (bif bif bif decide (i ≥ 0) then decide (i < W) else false then decide (j ≥ 0) else false then decide (j < H) else false) = (decide (0 ≤ i) && decide (i < W) && decide (0 ≤ j) && decide (j < H)) := by
        simp only [cond_and, ge_iff_le]
      obtain ⟨hW, hH, hn, hn1, hn2⟩ := may_get hm
      have wr : (decide (0 ≤ i) && decide (i < W) && decide (0 ≤ j) && decide (j < H)) = true → (0 ≤ W * j + i ∧ W * j + i < (n : Int)) ∧ IntKind.i64.wrap (IntKind.i64.wrap (W * j) + i) = W * j + i := by
        intro h
        simp only [Bool.and_eq_true, decide_eq_true_eq] at h
        have := cell_rng ⟨h.1.1.1, h.1.1.2⟩ ⟨h.1.2, h.2⟩
        refine ⟨⟨this.2.1, by omega⟩, ?_⟩
        rw [i64_in (W * j) (by omega), i64_in _ (by omega)]
      refine evC_go0 (dec := []) (ks := [(0, 1), (0, 2), (0, 3), (0, 6), (1, 0), (1, 1), (1, 2), (1, 3)]) (s' := ⟨[(0, 1, Cont.cell (AV.int IntKind.i64 i)), (0, 2, Cont.cell (AV.int IntKind.i64 j)), (0, 3, Cont.cell (AV.ptr 1 0)), (0, 6, Cont.cell (AV.bool false)), (1, 0, Cont.cell (AV.int IntKind.i64 W)), (1, 1, Cont.cell (AV.int IntKind.i64 H)), (1, 2, Cont.cell (AV.rs 1 n false (nB g))), (1, 3, Cont.top)], 17, 37⟩) (by kernel_rfl) (by kernel_rfl) ?_
      refine evC_go (dec := []) (ks := [(0, 6)]) (ps := [List.all [bif bif bif decide (i ≥ (0 : Int)) then decide (i < W) else false then decide (j ≥ (0 : Int)) else false then decide (j < H) else false] id = true → (0 : Int) ≤ IntKind.i64.wrap (IntKind.i64.wrap (W * j) + i), List.all [bif bif bif decide (i ≥ (0 : Int)) then decide (i < W) else false then decide (j ≥ (0 : Int)) else false then decide (j < H) else false] id = true → IntKind.i64.wrap (IntKind.i64.wrap (W * j) + i) < (↑n : Int), List.all [bif bif bif decide (i ≥ (0 : Int)) then decide (i < W) else false then decide (j ≥ (0 : Int)) else false then decide (j < H) else false] id = true → (1 : Nat) = (1 : Nat)]) (s' := ⟨[(0, 6, Cont.cell (AV.bool (bif bif bif bif decide (i ≥ 0) then decide (i < W) else false then decide (j ≥ 0) else false then decide (j < H) else false then g (Int.toNat (IntKind.i64.wrap (IntKind.i64.wrap (W * j) + i))) else false)))], 265, 37⟩) (by kernel_rfl) (by kernel_rfl) ?_ ?_
      · rw [key]
        refine ⟨fun h => ?_, fun h => ?_, fun _ => rfl⟩
        · obtain ⟨h1, h2⟩ := wr ((id_one _).mp h)
          rw [h2]; exact h1.1
        · obtain ⟨h1, h2⟩ := wr ((id_one _).mp h)
          rw [h2]; exact h1.2
      refine evC_ret ?_
      refine post_ret ?_
      refine ends_flat (vs := [AV.bool (bif bif bif bif decide (i ≥ 0) then decide (i < W) else false then decide (j ≥ 0) else false then decide (j < H) else false then g (Int.toNat (IntKind.i64.wrap (IntKind.i64.wrap (W * j) + i))) else false)]) (Nat.zero_lt_succ _) (by kernel_rfl) (flat_of _ (by kernel_rfl)) rfl ?_
      rw [key]
      refine congrArg AV.bool ?_
      unfold opF
      cases hc : (decide (0 ≤ i) && decide (i < W) && decide (0 ≤ j) && decide (j < H)) with
      | false => rfl
      | true => rw [(wr hc).2]; rfl
    · cases e
  · cases e
theorem is_ok : SpecOK Try.prog 28 sOpen := by
  refine spec_own (by kernel_rfl) T_ok sget_nil Try.func28 rfl rfl fun args hr nb out e => ?_
  unfold sOpen at e
  split at e
  · rename_i W H v i j
    split at e
    · rename_i n f rd hs1
      injection e with e; subst e
      refine ⟨fun x hx => sl_rd hs1 x hx, false, [ld W H n (Bf f), .int .i64 i, .int .i64 j], rfl, fun hs => ?_⟩
      have h1 := hs _ List.mem_cons_self
      have hm := hs _ (List.mem_cons_of_mem _ List.mem_cons_self)
      refine ⟨land_pass hs1 (fun y hy => ⟨hy, by simp⟩) h1 (.cons _ _ _ _ (.same _ _ (.int _ _)) (.cons _ _ _ _ (.same _ _ (.int _ _)) .nil)), ?_⟩
      clear hs h1
      generalize Bf f = g
      unfold ld
      have key : (bif bif bif decide (i ≥ 0) then decide (j ≥ 0) else false then decide (i < W) else false then decide (j < H) else false) = (decide (0 ≤ i) && decide (i < W) && decide (0 ≤ j) && decide (j < H)) := by
        simp only [cond_and, ge_iff_le]
        cases decide (0 ≤ i) <;> cases decide (i < W) <;> cases decide (0 ≤ j) <;> cases decide (j < H) <;> rfl
      obtain ⟨hW, hH, hn, hn1, hn2⟩ := may_get hm
      have wr : (decide (0 ≤ i) && decide (i < W) && decide (0 ≤ j) && decide (j < H)) = true → (0 ≤ W * j + i ∧ W * j + i < (n : Int)) ∧ IntKind.i64.wrap (IntKind.i64.wrap (W * j) + i) = W * j + i := by
        intro h
        simp only [Bool.and_eq_true, decide_eq_true_eq] at h
        have := cell_rng ⟨h.1.1.1, h.1.1.2⟩ ⟨h.1.2, h.2⟩
        refine ⟨⟨this.2.1, by omega⟩, ?_⟩
        rw [i64_in (W * j) (by omega), i64_in _ (by omega)]
      refine evC_go0 (dec := []) (ks := [(0, 1), (0, 2), (0, 3), (0, 6), (1, 0), (1, 1), (1, 2), (1, 3)]) (s' := ⟨[(0, 1, Cont.cell (AV.int IntKind.i64 i)), (0, 2, Cont.cell (AV.int IntKind.i64 j)), (0, 3, Cont.cell (AV.ptr 1 0)), (0, 6, Cont.cell (AV.bool false)), (1, 0, Cont.cell (AV.int IntKind.i64 W)), (1, 1, Cont.cell (AV.int IntKind.i64 H)), (1, 2, Cont.cell (AV.rs 1 n false (nB g))), (1, 3, Cont.top)], 17, 37⟩) (by kernel_rfl) (by kernel_rfl) ?_
      refine evC_go (dec := []) (ks := [(0, 6)]) (ps := [List.all [bif bif bif decide (i ≥ (0 : Int)) then decide (j ≥ (0 : Int)) else false then decide (i < W) else false then decide (j < H) else false] id = true → (0 : Int) ≤ IntKind.i64.wrap (IntKind.i64.wrap (W * j) + i), List.all [bif bif bif decide (i ≥ (0 : Int)) then decide (j ≥ (0 : Int)) else false then decide (i < W) else false then decide (j < H) else false] id = true → IntKind.i64.wrap (IntKind.i64.wrap (W * j) + i) < (↑n : Int), List.all [bif bif bif decide (i ≥ (0 : Int)) then decide (j ≥ (0 : Int)) else false then decide (i < W) else false then decide (j < H) else false] id = true → (1 : Nat) = (1 : Nat)]) (s' := ⟨[(0, 6, Cont.cell (AV.bool (bif bif bif bif decide (i ≥ 0) then decide (j ≥ 0) else false then decide (i < W) else false then decide (j < H) else false then g (Int.toNat (IntKind.i64.wrap (IntKind.i64.wrap (W * j) + i))) else false)))], 265, 37⟩) (by kernel_rfl) (by kernel_rfl) ?_ ?_
      · rw [key]
        refine ⟨fun h => ?_, fun h => ?_, fun _ => rfl⟩
        · obtain ⟨h1, h2⟩ := wr ((id_one _).mp h)
          rw [h2]; exact h1.1
        · obtain ⟨h1, h2⟩ := wr ((id_one _).mp h)
          rw [h2]; exact h1.2
      refine evC_ret ?_
      refine post_ret ?_
      refine ends_flat (vs := [AV.bool (bif bif bif bif decide (i ≥ 0) then decide (j ≥ 0) else false then decide (i < W) else false then decide (j < H) else false then g (Int.toNat (IntKind.i64.wrap (IntKind.i64.wrap (W * j) + i))) else false)]) (Nat.zero_lt_succ _) (by kernel_rfl) (flat_of _ (by kernel_rfl)) rfl ?_
      rw [key]
      refine congrArg AV.bool ?_
      unfold opF
      cases hc : (decide (0 ≤ i) && decide (i < W) && decide (0 ≤ j) && decide (j < H)) with
      | false => rfl
      | true => rw [(wr hc).2]; rfl
    · cases e
  · cases e
end Go.Eng.S13
