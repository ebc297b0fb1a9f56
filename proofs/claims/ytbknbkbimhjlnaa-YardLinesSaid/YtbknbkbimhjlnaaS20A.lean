/- Seat 20: the yard's 'within', walked: what each computes, for every argument that its contract names. -/
import Derived.Test.YtbknbkbimhjlnaaEngX
import Derived.Test.YtbknbkbimhjlnaaEngX
import Derived.Test.YtbknbkbimhjlnaaProg
set_option linter.unusedSimpArgs false
set_option linter.unusedVariables false
namespace Go.Eng.S20
open Go.Proofs Go.IntWalk
def T : Tab := [(1, ⟨1, 8, .other, [.nilf]⟩),
  (2, ⟨1, 8, .int .i64, [.int .i64 0]⟩),
  (3, ⟨1, 8, .int .i64, [.int .i64 0]⟩),
  (4, ⟨1, 1, .bool, [.bool false]⟩),
  (23, ⟨4, 32, .struct [(0, 3, 1), (1, 3, 1), (2, 3, 1), (3, 3, 1)], [.int .i64 0, .int .i64 0, .int .i64 0, .int .i64 0]⟩),
  (24, ⟨1, 8, .int .i64, [.int .i64 0]⟩),
  (38, ⟨2, 16, .struct [(0, 3, 1), (1, 3, 1)], [.int .i64 0, .int .i64 0]⟩),
  (44, ⟨1, 24, .slice 3, [.nils]⟩),
  (52, ⟨1, 8, .int .u64, [.int .u64 0]⟩)]
theorem T_ok : TabOK Try.prog T := by
  have e : tabOf Try.prog [1, 2, 3, 4, 23, 24, 38, 44, 52] = T := by kernel_rfl
  exact e ▸ tabOf_sound Try.prog [1, 2, 3, 4, 23, 24, 38, 44, 52]

def withinF (lo hi : Int) (n : Nat) (f : Nat → AV) : Bool := (List.range n).all fun i => decide (lo ≤ iv (f i)) && decide (iv (f i) ≤ hi)
def sWithin : Spec := fun args hr _ => match args with
  | [.int .i64 lo, .int .i64 hi, v] => match sl 1 hr v with
    | some (n, f, rd) => some ⟨[(∀ i, i < n → f i = .int .i64 (iv (f i))) ∧ n < 2 ^ 63], .bool (withinF lo hi n f), rd, []⟩
    | none => none
  | _ => none

set_option maxRecDepth 10000
theorem within_ok : SpecOK Try.prog 26 sWithin := by
  refine spec_own (by kernel_rfl) T_ok (Γ := []) (fun f s h => by cases h) Try.func26 rfl rfl fun args hr nb out e => ?_
  unfold sWithin at e
  split at e
  · rename_i lo hi v
    split at e
    · rename_i n f rd hsl
      injection e with e; subst e
      refine ⟨sl_rd hsl, false, [.int .i64 lo, .int .i64 hi, .rs 1 n false fun i => .int .i64 (iv (f i))], rfl, fun hs => ?_⟩
      obtain ⟨hf, hn⟩ := hs _ List.mem_cons_self
      refine ⟨.cons _ _ _ _ (.same _ _ (.int _ _)) (.cons _ _ _ _ (.same _ _ (.int _ _)) (.cons _ _ _ _ (.slice _ _ _ _ _ hsl (fun _ h => ⟨h, by simp⟩) _ fun i hi => ⟨hf i hi, .int _ _⟩) .nil)), ?_⟩
      refine evC_go0 (dec := []) (ks := [(0, 0), (0, 1), (0, 2), (0, 6)]) (s' := ⟨[(0, 0, Cont.cell (AV.int IntKind.i64 lo)), (0, 1, Cont.cell (AV.int IntKind.i64 hi)), (0, 2, Cont.cell (AV.rs 1 n false fun i => AV.int IntKind.i64 (iv (f i)))), (0, 6, Cont.cell (AV.bool false))], 9, 24⟩) (by kernel_rfl) (by kernel_rfl) ?_
      refine evC_seq ?_
      refine evC_go0 (dec := []) (ks := [(0, 0), (0, 1), (0, 6), (0, 9), (0, 10), (0, 11)]) (s' := ⟨[(0, 0, Cont.cell (AV.int IntKind.i64 lo)), (0, 1, Cont.cell (AV.int IntKind.i64 hi)), (0, 6, Cont.cell (AV.bool false)), (0, 9, Cont.cell (AV.rs 1 n false fun i => AV.int IntKind.i64 (iv (f i)))), (0, 10, Cont.cell (AV.int IntKind.i64 (↑n : Int))), (0, 11, Cont.cell (AV.int IntKind.i64 0))], 33, 24⟩) (by kernel_rfl) (by kernel_rfl) ?_
      refine evC_block ?_
      refine evC_loop (ι := { i : Nat // i ≤ n ∧ ∀ j, j < i → (decide (lo ≤ iv (f j)) && decide (iv (f j) ≤ hi)) = true }) (fun i => ⟨[(0, 0, .cell (.int .i64 lo)), (0, 1, .cell (.int .i64 hi)), (0, 6, .cell (.bool false)), (0, 9, .cell (.rs 1 n false fun i => .int .i64 (iv (f i)))), (0, 10, .cell (.int .i64 n)), (0, 11, .cell (.int .i64 (i.1 : Nat)))], 1, 24⟩)
        (fun i => n - i.1) ⟨0, Nat.zero_le _, fun j hj => absurd hj (Nat.not_lt_zero j)⟩ (wk_flat rfl rfl rfl (by kernel_rfl) (fun π => by kernel_rfl)) ?_
      rintro ⟨i, hin, hj⟩
      refine evC_go0 (dec := []) (ks := [(0, 0), (0, 1), (0, 6), (0, 9), (0, 10), (0, 11), (0, 12)]) (s' := ⟨[(0, 0, Cont.cell (AV.int IntKind.i64 lo)), (0, 1, Cont.cell (AV.int IntKind.i64 hi)), (0, 6, Cont.cell (AV.bool false)), (0, 9, Cont.cell (AV.rs 1 n false fun i => AV.int IntKind.i64 (iv (f i)))), (0, 10, Cont.cell (AV.int IntKind.i64 (↑n : Int))), (0, 11, Cont.cell (AV.int IntKind.i64 (↑i : Int))), (0, 12, Cont.cell (AV.bool (decide ((↑i : Int) < (↑n : Int)))))], 9, 24⟩) (by kernel_rfl) (by kernel_rfl) ?_
      refine evC_seq ?_
      refine evC_if (q := decide ((↑i : Int) < (↑n : Int))) (by kernel_rfl) (fun hc => ?_) (fun hc => ?_)
      · refine evC_skip ?_
        refine then_normal ?_
        refine evC_seq ?_
        refine evC_block ?_
        refine evC_go (dec := []) (ks := [(0, 0), (0, 1), (0, 6), (0, 8), (0, 9), (0, 10), (0, 11)]) (ps := [(0 : Int) ≤ (↑i : Int), (↑i : Int) < (↑n : Int), (1 : Nat) = (1 : Nat)]) (s' := ⟨[(0, 0, Cont.cell (AV.int IntKind.i64 lo)), (0, 1, Cont.cell (AV.int IntKind.i64 hi)), (0, 6, Cont.cell (AV.bool false)), (0, 8, Cont.cell (AV.int IntKind.i64 (iv (f i)))), (0, 9, Cont.cell (AV.rs 1 n false fun i => AV.int IntKind.i64 (iv (f i)))), (0, 10, Cont.cell (AV.int IntKind.i64 (↑n : Int))), (0, 11, Cont.cell (AV.int IntKind.i64 (↑i : Int)))], 33, 24⟩) (by kernel_rfl) (by kernel_rfl) ?_ ?_
        · have hlt : (i : Int) < (n : Int) := of_decide_eq_true hc
          exact ⟨Int.natCast_nonneg i, hlt, rfl⟩
        have hlt : (i : Int) < (n : Int) := of_decide_eq_true hc
        refine evC_go0 (dec := []) (ks := [(0, 0), (0, 1), (0, 6), (0, 9), (0, 10), (0, 11), (0, 22)]) (s' := ⟨[(0, 0, Cont.cell (AV.int IntKind.i64 lo)), (0, 1, Cont.cell (AV.int IntKind.i64 hi)), (0, 6, Cont.cell (AV.bool false)), (0, 9, Cont.cell (AV.rs 1 n false fun i => AV.int IntKind.i64 (iv (f i)))), (0, 10, Cont.cell (AV.int IntKind.i64 (↑n : Int))), (0, 11, Cont.cell (AV.int IntKind.i64 (↑i : Int))), (0, 22, Cont.cell (AV.bool (bif decide (iv (f i) < lo) then true else decide (iv (f i) > hi))))], 97, 24⟩) (by kernel_rfl) (by kernel_rfl) ?_
        refine evC_if (q := bif decide (iv (f i) < lo) then true else decide (iv (f i) > hi)) (by kernel_rfl) (fun hc => ?_) (fun hc => ?_)
        · refine evC_go0 (dec := []) (ks := [(0, 0), (0, 1), (0, 6), (0, 9), (0, 10), (0, 11)]) (s' := ⟨[(0, 0, Cont.cell (AV.int IntKind.i64 lo)), (0, 1, Cont.cell (AV.int IntKind.i64 hi)), (0, 6, Cont.cell (AV.bool false)), (0, 9, Cont.cell (AV.rs 1 n false fun i => AV.int IntKind.i64 (iv (f i)))), (0, 10, Cont.cell (AV.int IntKind.i64 (↑n : Int))), (0, 11, Cont.cell (AV.int IntKind.i64 (↑i : Int)))], 105, 24⟩) (by kernel_rfl) (by kernel_rfl) ?_
          refine evC_ret ?_
          refine block_ret ?_
          refine then_ret ?_
          refine round_ret ?_
          refine block_ret ?_
          refine then_ret ?_
          refine post_ret ?_
          refine ends_flat (vs := [AV.bool false]) (Nat.zero_lt_succ _) (by kernel_rfl) (flat_of _ (by kernel_rfl)) rfl ?_
          have h1 : withinF lo hi n f = false := by
            refine all_false (i := i) (by omega) ?_
            try simp only [Int.toNat_natCast] at hc
            cases h2 : decide (iv (f i) < lo) <;> simp [h2] at hc <;> simp at h2 ⊢ <;> omega
          simp [h1, oneAV]
        · refine evC_skip ?_
          refine block_normal ?_
          refine then_normal ?_
          refine evC_goL0 (dec := []) (ks := [(0, 0), (0, 1), (0, 6), (0, 9), (0, 10), (0, 11)]) (s' := ⟨[(0, 0, Cont.cell (AV.int IntKind.i64 lo)), (0, 1, Cont.cell (AV.int IntKind.i64 hi)), (0, 6, Cont.cell (AV.bool false)), (0, 9, Cont.cell (AV.rs 1 n false fun i => AV.int IntKind.i64 (iv (f i)))), (0, 10, Cont.cell (AV.int IntKind.i64 (↑n : Int))), (0, 11, Cont.cell (AV.int IntKind.i64 (IntKind.i64.wrap ((↑i : Int) + 1))))], 113, 24⟩) (by kernel_rfl) (by kernel_rfl) ?_
          rw [wrap_add_one (by omega) hn]
          refine round_normal ⟨i + 1, by omega, fun j hj' => ?_⟩ (wk_flat rfl rfl rfl (by kernel_rfl) (fun π => by kernel_rfl)) (by show n - (i + 1) < n - i; omega)
          by_cases hji : j < i
          · exact hj j hji
          · have : j = i := by omega
            subst this
            try simp only [Int.toNat_natCast] at hc
            cases h2 : decide (iv (f j) < lo) <;> simp [h2] at hc <;> simp at h2 ⊢ <;> omega
      · refine evC_exit ?_
        refine then_exit ?_
        refine round_exit ?_
        refine block_exit ?_
        refine then_normal ?_
        refine evC_go0 (dec := []) (ks := [(0, 6)]) (s' := ⟨[(0, 6, Cont.cell (AV.bool true))], 17, 24⟩) (by kernel_rfl) (by kernel_rfl) ?_
        refine evC_ret ?_
        refine post_ret ?_
        refine ends_flat (vs := [AV.bool true]) (Nat.zero_lt_succ _) (by kernel_rfl) (flat_of _ (by kernel_rfl)) rfl ?_
        have hlt : ¬ (i : Int) < (n : Int) := of_decide_eq_false hc
        have h1 : withinF lo hi n f = true := by
          refine List.all_eq_true.2 fun j hj' => hj j ?_
          have := List.mem_range.1 hj'
          omega
        simp [h1, oneAV]
    · cases e
  · cases e
end Go.Eng.S20
