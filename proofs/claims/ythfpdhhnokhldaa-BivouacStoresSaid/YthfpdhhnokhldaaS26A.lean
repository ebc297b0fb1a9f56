/- Seat top, stores: the yard's functions, walked. -/
import Derived.Test.YthfpdhhnokhldaaEngX
import Derived.Test.YthfpdhhnokhldaaEngX
import Derived.Test.YthfpdhhnokhldaaProg
set_option linter.unusedSimpArgs false
set_option linter.unusedVariables false
namespace Go.Eng.S26
open Go.Proofs Go.IntWalk
def T : Tab := [(1, ⟨1, 8, .other, [.nilf]⟩),
  (2, ⟨1, 8, .int .i64, [.int .i64 0]⟩),
  (3, ⟨1, 8, .int .i64, [.int .i64 0]⟩),
  (4, ⟨1, 1, .bool, [.bool false]⟩),
  (5, ⟨1, 1, .int .u8, [.int .u8 0]⟩),
  (6, ⟨1, 1, .int .u8, [.int .u8 0]⟩),
  (8, ⟨4, 24, .struct [(0, 2, 1), (1, 3, 1), (2, 4, 1), (3, 6, 1)], [.int .i64 0, .int .i64 0, .bool false, .int .u8 0]⟩),
  (9, ⟨1, 16, .str, [.str ⟨⟨[]⟩⟩]⟩),
  (10, ⟨1, 16, .str, [.str ⟨⟨[]⟩⟩]⟩),
  (11, ⟨1, 16, .str, [.str ⟨⟨[]⟩⟩]⟩),
  (15, ⟨1, 8, .ptr 98, [.nilp]⟩),
  (16, ⟨1, 8, .ptr 101, [.nilp]⟩),
  (17, ⟨1, 8, .ptr 110, [.nilp]⟩),
  (22, ⟨1, 24, .slice 5, [.nils]⟩),
  (24, ⟨4, 48, .struct [(0, 3, 1), (1, 3, 1), (2, 3, 1), (3, 22, 1)], [.int .i64 0, .int .i64 0, .int .i64 0, .nils]⟩),
  (25, ⟨1, 24, .slice 31, [.nils]⟩),
  (27, ⟨7, 88, .struct [(0, 24, 4), (4, 25, 1), (5, 2, 1), (6, 2, 1)], [.int .i64 0, .int .i64 0, .int .i64 0, .nils, .nils, .int .i64 0, .int .i64 0]⟩),
  (31, ⟨4, 32, .struct [(0, 3, 1), (1, 3, 1), (2, 3, 1), (3, 3, 1)], [.int .i64 0, .int .i64 0, .int .i64 0, .int .i64 0]⟩),
  (32, ⟨1, 8, .int .i64, [.int .i64 0]⟩),
  (38, ⟨1, 8, .other, [.nilf]⟩),
  (43, ⟨4, 32, .struct [(0, 3, 1), (1, 3, 1), (2, 3, 1), (3, 3, 1)], [.int .i64 0, .int .i64 0, .int .i64 0, .int .i64 0]⟩),
  (44, ⟨4, 32, .struct [(0, 3, 1), (1, 3, 1), (2, 3, 1), (3, 3, 1)], [.int .i64 0, .int .i64 0, .int .i64 0, .int .i64 0]⟩),
  (45, ⟨4, 32, .struct [(0, 3, 1), (1, 3, 1), (2, 3, 1), (3, 3, 1)], [.int .i64 0, .int .i64 0, .int .i64 0, .int .i64 0]⟩),
  (50, ⟨2, 16, .struct [(0, 3, 1), (1, 3, 1)], [.int .i64 0, .int .i64 0]⟩),
  (53, ⟨1, 24, .slice 50, [.nils]⟩),
  (59, ⟨1, 8, .other, [.nilf]⟩),
  (63, ⟨1, 8, .other, [.nilf]⟩),
  (64, ⟨1, 8, .other, [.nilf]⟩),
  (66, ⟨4, 32, .array 4 3, [.int .i64 0, .int .i64 0, .int .i64 0, .int .i64 0]⟩),
  (69, ⟨1, 8, .int .u64, [.int .u64 0]⟩),
  (85, ⟨1, 24, .slice 3, [.nils]⟩),
  (86, ⟨1, 8, .int .u64, [.int .u64 0]⟩),
  (87, ⟨2, 16, .array 2 86, [.int .u64 0, .int .u64 0]⟩)]
theorem T_ok : TabOK Try.prog T := by
  have e : tabOf Try.prog [1, 2, 3, 4, 5, 6, 8, 9, 10, 11, 15, 16, 17, 22, 24, 25, 27, 31, 32, 38, 43, 44, 45, 50, 53, 59, 63, 64, 66, 69, 85, 86, 87] = T := by kernel_rfl
  exact e ▸ tabOf_sound Try.prog [1, 2, 3, 4, 5, 6, 8, 9, 10, 11, 15, 16, 17, 22, 24, 25, 27, 31, 32, 38, 43, 44, 45, 50, 53, 59, 63, 64, 66, 69, 85, 86, 87]

def withinF (lo hi : Int) (n : Nat) (f : Nat → AV) : Bool := (List.range n).all fun i => decide (lo ≤ iv (f i)) && decide (iv (f i) ≤ hi)
def sWithin : Spec := fun args hr _ => match args with
  | [.int .i64 lo, .int .i64 hi, v] => match sl 1 hr v with
    | some (n, f, rd) => some ⟨[(∀ i, i < n → f i = .int .i64 (iv (f i))) ∧ n < 2 ^ 63], .bool (withinF lo hi n f), rd, []⟩
    | none => none
  | _ => none

set_option maxRecDepth 10000
theorem within_ok : SpecOK Try.prog 32 sWithin := by
  refine spec_own (by kernel_rfl) T_ok (Γ := []) (fun f s h => by cases h) Try.func32 rfl rfl fun args hr nb out e => ?_
  unfold sWithin at e
  split at e
  · rename_i lo hi v
    split at e
    · rename_i n f rd hsl
      injection e with e; subst e
      refine ⟨sl_rd hsl, false, [.int .i64 lo, .int .i64 hi, .rs 1 n false fun i => .int .i64 (iv (f i))], rfl, fun hs => ?_⟩
      obtain ⟨hf, hn⟩ := hs _ List.mem_cons_self
      refine ⟨.cons _ _ _ _ (.same _ _ (.int _ _)) (.cons _ _ _ _ (.same _ _ (.int _ _)) (.cons _ _ _ _ (.slice _ _ _ _ _ hsl (fun _ h => ⟨h, by simp⟩) _ fun i hi => ⟨hf i hi, .int _ _⟩) .nil)), ?_⟩
      refine evC_go0 (dec := []) (ks := [(0, 0), (0, 1), (0, 2), (0, 6)]) (s' := ⟨[(0, 0, Cont.cell (AV.int IntKind.i64 lo)), (0, 1, Cont.cell (AV.int IntKind.i64 hi)), (0, 2, Cont.cell (AV.rs 1 n false fun i => AV.int IntKind.i64 (iv (f i)))), (0, 6, Cont.cell (AV.bool false))], 9, 24⟩) (by kernel_rfl) (by kernel_rfl) ?_
      refine evC_seq ?_
      refine evC_go0 (dec := []) (ks := [(0, 0), (0, 1), (0, 6), (0, 9), (0, 10), (0, 11)]) (s' := ⟨[(0, 0, Cont.cell (AV.int IntKind.i64 lo)), (0, 1, Cont.cell (AV.int IntKind.i64 hi)), (0, 6, Cont.cell (AV.bool false)), (0, 9, Cont.cell (AV.rs 1 n false fun i => AV.int IntKind.i64 (iv (f i)))), (0, 10, Cont.cell (AV.int IntKind.i64 (↑n : Int))), (0, 11, Cont.cell (AV.int IntKind.i64 0))], 33, 24⟩) (by kernel_rfl) (by kernel_rfl) ?_
      refine evC_block ?_
      refine evC_loop (ι := { i : Nat // i ≤ n ∧ ∀ j, j < i → (decide (lo ≤ iv (f j)) && decide (iv (f j) ≤ hi)) = true }) (fun i => ⟨[(0, 0, .cell (.int .i64 lo)), (0, 1, .cell (.int .i64 hi)), (0, 6, .cell (.bool false)), (0, 9, .cell (.rs 1 n false fun i => .int .i64 (iv (f i)))), (0, 10, .cell (.int .i64 n)), (0, 11, .cell (.int .i64 (i.1 : Nat)))], 1, 24⟩)
        (fun i => n - i.1) ⟨0, Nat.zero_le _, fun j hj => absurd hj (Nat.not_lt_zero j)⟩ (wk_flat rfl rfl rfl (by kernel_rfl) (fun π => by kernel_rfl)) ?_
      rintro ⟨i, hin, hj⟩
      refine evC_go0 (dec := []) (ks := [(0, 0), (0, 1), (0, 6), (0, 9), (0, 10), (0, 11), (0, 12)]) (s' := ⟨[(0, 0, Cont.cell (AV.int IntKind.i64 lo)), (0, 1, Cont.cell (AV.int IntKind.i64 hi)), (0, 6, Cont.cell (AV.bool false)), (0, 9, Cont.cell (AV.rs 1 n false fun i => AV.int IntKind.i64 (iv (f i)))), (0, 10, Cont.cell (AV.int IntKind.i64 (↑n : Int))), (0, 11, Cont.cell (AV.int IntKind.i64 (↑i : Int))), (0, 12, Cont.cell (AV.bool (decide ((↑i : Int) < (↑n : Int)))))], 9, 24⟩) (by kernel_rfl) (by kernel_rfl) ?_
      refine evC_seq ?_
      refine evC_if (q := decide ((↑i : Int) < (↑n : Int))) (by kernel_rfl) (fun hc => ?_) (fun hc => ?_)
      · refine evC_skip ?_
        refine then_normal ?_
        refine evC_seq ?_
        refine evC_block ?_
        refine evC_go (dec := []) (ks := [(0, 0), (0, 1), (0, 6), (0, 8), (0, 9), (0, 10), (0, 11)]) (ps := [(0 : Int) ≤ (↑i : Int), (↑i : Int) < (↑n : Int), (1 : Nat) = (1 : Nat)]) (s' := ⟨[(0, 0, Cont.cell (AV.int IntKind.i64 lo)), (0, 1, Cont.cell (AV.int IntKind.i64 hi)), (0, 6, Cont.cell (AV.bool false)), (0, 8, Cont.cell (AV.int IntKind.i64 (iv (f i)))), (0, 9, Cont.cell (AV.rs 1 n false fun i => AV.int IntKind.i64 (iv (f i)))), (0, 10, Cont.cell (AV.int IntKind.i64 (↑n : Int))), (0, 11, Cont.cell (AV.int IntKind.i64 (↑i : Int)))], 33, 24⟩) (by kernel_rfl) (by kernel_rfl) ?_ ?_
        · have hlt : (i : Int) < (n : Int) := of_decide_eq_true hc
          exact ⟨Int.natCast_nonneg i, hlt, rfl⟩
        have hlt : (i : Int) < (n : Int) := of_decide_eq_true hc
        refine evC_go0 (dec := []) (ks := [(0, 0), (0, 1), (0, 6), (0, 9), (0, 10), (0, 11), (0, 22)]) (s' := ⟨[(0, 0, Cont.cell (AV.int IntKind.i64 lo)), (0, 1, Cont.cell (AV.int IntKind.i64 hi)), (0, 6, Cont.cell (AV.bool false)), (0, 9, Cont.cell (AV.rs 1 n false fun i => AV.int IntKind.i64 (iv (f i)))), (0, 10, Cont.cell (AV.int IntKind.i64 (↑n : Int))), (0, 11, Cont.cell (AV.int IntKind.i64 (↑i : Int))), (0, 22, Cont.cell (AV.bool (bif decide (iv (f i) < lo) then true else decide (iv (f i) > hi))))], 97, 24⟩) (by kernel_rfl) (by kernel_rfl) ?_
        refine evC_if (q := bif decide (iv (f i) < lo) then true else decide (iv (f i) > hi)) (by kernel_rfl) (fun hc => ?_) (fun hc => ?_)
        · refine evC_go0 (dec := []) (ks := [(0, 0), (0, 1), (0, 6), (0, 9), (0, 10), (0, 11)]) (s' := ⟨[(0, 0, Cont.cell (AV.int IntKind.i64 lo)), (0, 1, Cont.cell (AV.int IntKind.i64 hi)), (0, 6, Cont.cell (AV.bool false)), (0, 9, Cont.cell (AV.rs 1 n false fun i => AV.int IntKind.i64 (iv (f i)))), (0, 10, Cont.cell (AV.int IntKind.i64 (↑n : Int))), (0, 11, Cont.cell (AV.int IntKind.i64 (↑i : Int)))], 105, 24⟩) (by kernel_rfl) (by kernel_rfl) ?_
          refine evC_ret ?_
          refine block_ret ?_
          refine then_ret ?_
          refine round_ret ?_
          refine block_ret ?_
          refine then_ret ?_
          refine post_ret ?_
          refine ends_flat (vs := [AV.bool false]) (Nat.zero_lt_succ _) (by kernel_rfl) (flat_of _ (by kernel_rfl)) rfl ?_
          have h1 : withinF lo hi n f = false := by
            refine all_false (i := i) (by omega) ?_
            try simp only [Int.toNat_natCast] at hc
            cases h2 : decide (iv (f i) < lo) <;> simp [h2] at hc <;> simp at h2 ⊢ <;> omega
          simp [h1, oneAV]
        · refine evC_skip ?_
          refine block_normal ?_
          refine then_normal ?_
          refine evC_goL0 (dec := []) (ks := [(0, 0), (0, 1), (0, 6), (0, 9), (0, 10), (0, 11)]) (s' := ⟨[(0, 0, Cont.cell (AV.int IntKind.i64 lo)), (0, 1, Cont.cell (AV.int IntKind.i64 hi)), (0, 6, Cont.cell (AV.bool false)), (0, 9, Cont.cell (AV.rs 1 n false fun i => AV.int IntKind.i64 (iv (f i)))), (0, 10, Cont.cell (AV.int IntKind.i64 (↑n : Int))), (0, 11, Cont.cell (AV.int IntKind.i64 (IntKind.i64.wrap ((↑i : Int) + 1))))], 113, 24⟩) (by kernel_rfl) (by kernel_rfl) ?_
          rw [wrap_add_one (by omega) hn]
          refine round_normal ⟨i + 1, by omega, fun j hj' => ?_⟩ (wk_flat rfl rfl rfl (by kernel_rfl) (fun π => by kernel_rfl)) (by show n - (i + 1) < n - i; omega)
          by_cases hji : j < i
          · exact hj j hji
          · have : j = i := by omega
            subst this
            try simp only [Int.toNat_natCast] at hc
            cases h2 : decide (iv (f j) < lo) <;> simp [h2] at hc <;> simp at h2 ⊢ <;> omega
      · refine evC_exit ?_
        refine then_exit ?_
        refine round_exit ?_
        refine block_exit ?_
        refine then_normal ?_
        refine evC_go0 (dec := []) (ks := [(0, 6)]) (s' := ⟨[(0, 6, Cont.cell (AV.bool true))], 17, 24⟩) (by kernel_rfl) (by kernel_rfl) ?_
        refine evC_ret ?_
        refine post_ret ?_
        refine ends_flat (vs := [AV.bool true]) (Nat.zero_lt_succ _) (by kernel_rfl) (flat_of _ (by kernel_rfl)) rfl ?_
        have hlt : ¬ (i : Int) < (n : Int) := of_decide_eq_false hc
        have h1 : withinF lo hi n f = true := by
          refine List.all_eq_true.2 fun j hj' => hj j ?_
          have := List.mem_range.1 hj'
          omega
        simp [h1, oneAV]
    · cases e
  · cases e
def Γ1 : Specs := [(32, sWithin)]
theorem Γ1_ok : SpecsOK Try.prog Γ1 := by
  intro f s h
  simp only [Γ1, sget] at h
  cases hf : (32 == f) with
  | true => simp only [hf, cond_true, Option.some.injEq] at h; have : 32 = f := by simpa using hf
            subst this; subst h; exact within_ok
  | false => simp [hf] at h

theorem within1 (lo hi x : Int) (f : Nat → AV) (k : IntKind) (h : f 0 = .int k x) : withinF lo hi 1 f = inR lo hi x := by
  simp [withinF, h, iv, inR, List.range_succ]
theorem within2 (lo hi x y : Int) (f : Nat → AV) (k k' : IntKind) (h : f 0 = .int k x) (h' : f 1 = .int k' y) : withinF lo hi 2 f = (inR lo hi x && inR lo hi y) := by
  simp [withinF, h, h', iv, inR, List.range_succ]

theorem lit1 (lo hi x : Int) : (withinF lo hi 1 (pget [(0, AV.int .i64 x)])) = inR lo hi x := within1 lo hi x _ .i64 rfl
theorem lit2 (lo hi x y : Int) : (withinF lo hi 2 (pget [(0, AV.int .i64 x), (1, AV.int .i64 y)])) = (inR lo hi x && inR lo hi y) := within2 lo hi x y _ .i64 .i64 rfl rfl
theorem ok1 (x : Int) : (∀ i, i < 1 → pget [(0, AV.int .i64 x)] i = AV.int .i64 (iv (pget [(0, AV.int .i64 x)] i))) = True := by
  refine eq_true fun i hi => ?_
  have : i = 0 := by omega
  subst this; rfl
theorem ok2 (x y : Int) : (∀ i, i < 2 → pget [(0, AV.int .i64 x), (1, AV.int .i64 y)] i = AV.int .i64 (iv (pget [(0, AV.int .i64 x), (1, AV.int .i64 y)] i))) = True := by
  refine eq_true fun i hi => ?_
  rcases (by omega : i = 0 ∨ i = 1) with rfl | rfl <;> rfl
theorem small1 : (1 < 2 ^ 63) = True := eq_true (by decide)
theorem small2 : (2 < 2 ^ 63) = True := eq_true (by decide)
def mayF (m e n d : Int) : Bool := inR 0 65535 m && inR 0 65535 e && inR 1 65535 n && inR 0 n d
def sMay : Spec := fun args _ _ => match args with
  | [.agg [.int .i64 m, .int .i64 e, .int .i64 n, .int .i64 d]] => some ⟨[], .bool (mayF m e n d), [], []⟩
  | _ => none

theorem may_ok : SpecOK Try.prog 13 sMay := by
  refine spec_own (by kernel_rfl) T_ok Γ1_ok Try.func13 rfl rfl fun args hr nb out e => ?_
  unfold sMay at e
  split at e
  · rename_i m en n d
    injection e with e; subst e
    refine ⟨(fun _ h => nomatch h), true, [.agg [.int .i64 m, .int .i64 en, .int .i64 n, .int .i64 d]], rfl, fun hs => ⟨.cons _ _ _ _ (.same _ _ (flat_of _ rfl).has) .nil, ?_⟩⟩
    cases hA : inR 0 65535 m && inR 0 65535 en with
    | false =>
      refine evC_go0 (dec := []) (ks := [(0, 1), (0, 2), (1, 0), (1, 1), (1, 2), (1, 3), (1, 4)]) (s' := ⟨[(0, 1, Cont.cell (AV.ptr 1 0)), (0, 2, Cont.cell (AV.bool false)), (1, 0, Cont.cell (AV.int IntKind.i64 m)), (1, 1, Cont.cell (AV.int IntKind.i64 en)), (1, 2, Cont.cell (AV.int IntKind.i64 n)), (1, 3, Cont.cell (AV.int IntKind.i64 d)), (1, 4, Cont.top)], 17, 23⟩) (by kernel_rfl) (by kernel_rfl) ?_
      refine evC_go (dec := [(7, false), (8, false), (9, false), (10, false), (13, false), (14, false), (15, false), (16, false), (17, false), (18, false)]) (ks := [(0, 2)]) (ps := [(∀ (i : Nat), i < (2 : Nat) → pget [((0 : Nat), AV.int IntKind.i64 m), ((1 : Nat), AV.int IntKind.i64 en)] i = AV.int IntKind.i64 (iv (pget [((0 : Nat), AV.int IntKind.i64 m), ((1 : Nat), AV.int IntKind.i64 en)] i))) ∧ (2 : Nat) < (2 : Nat) ^ (63 : Nat), List.all [withinF (0 : Int) (65535 : Int) (2 : Nat) (pget [((0 : Nat), AV.int IntKind.i64 m), ((1 : Nat), AV.int IntKind.i64 en)])] id = false, List.all [withinF (0 : Int) (65535 : Int) (2 : Nat) (pget [((0 : Nat), AV.int IntKind.i64 m), ((1 : Nat), AV.int IntKind.i64 en)])] id = false, List.all [withinF (0 : Int) (65535 : Int) (2 : Nat) (pget [((0 : Nat), AV.int IntKind.i64 m), ((1 : Nat), AV.int IntKind.i64 en)])] id = false, List.all [withinF (0 : Int) (65535 : Int) (2 : Nat) (pget [((0 : Nat), AV.int IntKind.i64 m), ((1 : Nat), AV.int IntKind.i64 en)])] id = false, withinF (0 : Int) (65535 : Int) (2 : Nat) (pget [((0 : Nat), AV.int IntKind.i64 m), ((1 : Nat), AV.int IntKind.i64 en)]) = false, List.all [false] id = false, List.all [false] id = false, List.all [false] id = false, List.all [false] id = false, List.all [false] id = false, List.all [false] id = false, false = false]) (s' := ⟨[(0, 2, Cont.cell (AV.bool false))], 185, 23⟩) (by kernel_rfl) (by kernel_rfl) ?_ ?_
      · simp only [All, lit1, lit2, ok1, ok2, small1, small2, cond_and, id_one, id_one', hA, and_self]
      refine evC_ret ?_
      refine post_ret ?_
      refine ends_flat (vs := [AV.bool false]) (Nat.zero_lt_succ _) (by kernel_rfl) (flat_of _ (by kernel_rfl)) rfl ?_
      simp [mayF, oneAV, hA]
    | true => 
      cases hB : inR 1 65535 n with
      | false =>
        refine evC_go0 (dec := []) (ks := [(0, 1), (0, 2), (1, 0), (1, 1), (1, 2), (1, 3), (1, 4)]) (s' := ⟨[(0, 1, Cont.cell (AV.ptr 1 0)), (0, 2, Cont.cell (AV.bool false)), (1, 0, Cont.cell (AV.int IntKind.i64 m)), (1, 1, Cont.cell (AV.int IntKind.i64 en)), (1, 2, Cont.cell (AV.int IntKind.i64 n)), (1, 3, Cont.cell (AV.int IntKind.i64 d)), (1, 4, Cont.top)], 17, 23⟩) (by kernel_rfl) (by kernel_rfl) ?_
        refine evC_go (dec := [(7, true), (8, true), (9, true), (10, true), (13, false), (14, false), (15, false), (16, false), (17, false), (18, false)]) (ks := [(0, 2)]) (ps := [(∀ (i : Nat), i < (2 : Nat) → pget [((0 : Nat), AV.int IntKind.i64 m), ((1 : Nat), AV.int IntKind.i64 en)] i = AV.int IntKind.i64 (iv (pget [((0 : Nat), AV.int IntKind.i64 m), ((1 : Nat), AV.int IntKind.i64 en)] i))) ∧ (2 : Nat) < (2 : Nat) ^ (63 : Nat), List.all [withinF (0 : Int) (65535 : Int) (2 : Nat) (pget [((0 : Nat), AV.int IntKind.i64 m), ((1 : Nat), AV.int IntKind.i64 en)])] id = true, List.all [withinF (0 : Int) (65535 : Int) (2 : Nat) (pget [((0 : Nat), AV.int IntKind.i64 m), ((1 : Nat), AV.int IntKind.i64 en)])] id = true, List.all [withinF (0 : Int) (65535 : Int) (2 : Nat) (pget [((0 : Nat), AV.int IntKind.i64 m), ((1 : Nat), AV.int IntKind.i64 en)])] id = true, List.all [withinF (0 : Int) (65535 : Int) (2 : Nat) (pget [((0 : Nat), AV.int IntKind.i64 m), ((1 : Nat), AV.int IntKind.i64 en)])] id = true, (∀ (i : Nat), i < (1 : Nat) → pget [((0 : Nat), AV.int IntKind.i64 n)] i = AV.int IntKind.i64 (iv (pget [((0 : Nat), AV.int IntKind.i64 n)] i))) ∧ (1 : Nat) < (2 : Nat) ^ (63 : Nat), List.all [bif withinF (0 : Int) (65535 : Int) (2 : Nat) (pget [((0 : Nat), AV.int IntKind.i64 m), ((1 : Nat), AV.int IntKind.i64 en)]) then withinF (1 : Int) (65535 : Int) (1 : Nat) (pget [((0 : Nat), AV.int IntKind.i64 n)]) else false] id = false, List.all [bif withinF (0 : Int) (65535 : Int) (2 : Nat) (pget [((0 : Nat), AV.int IntKind.i64 m), ((1 : Nat), AV.int IntKind.i64 en)]) then withinF (1 : Int) (65535 : Int) (1 : Nat) (pget [((0 : Nat), AV.int IntKind.i64 n)]) else false] id = false, List.all [bif withinF (0 : Int) (65535 : Int) (2 : Nat) (pget [((0 : Nat), AV.int IntKind.i64 m), ((1 : Nat), AV.int IntKind.i64 en)]) then withinF (1 : Int) (65535 : Int) (1 : Nat) (pget [((0 : Nat), AV.int IntKind.i64 n)]) else false] id = false, List.all [bif withinF (0 : Int) (65535 : Int) (2 : Nat) (pget [((0 : Nat), AV.int IntKind.i64 m), ((1 : Nat), AV.int IntKind.i64 en)]) then withinF (1 : Int) (65535 : Int) (1 : Nat) (pget [((0 : Nat), AV.int IntKind.i64 n)]) else false] id = false, List.all [bif withinF (0 : Int) (65535 : Int) (2 : Nat) (pget [((0 : Nat), AV.int IntKind.i64 m), ((1 : Nat), AV.int IntKind.i64 en)]) then withinF (1 : Int) (65535 : Int) (1 : Nat) (pget [((0 : Nat), AV.int IntKind.i64 n)]) else false] id = false, List.all [bif withinF (0 : Int) (65535 : Int) (2 : Nat) (pget [((0 : Nat), AV.int IntKind.i64 m), ((1 : Nat), AV.int IntKind.i64 en)]) then withinF (1 : Int) (65535 : Int) (1 : Nat) (pget [((0 : Nat), AV.int IntKind.i64 n)]) else false] id = false, (bif withinF (0 : Int) (65535 : Int) (2 : Nat) (pget [((0 : Nat), AV.int IntKind.i64 m), ((1 : Nat), AV.int IntKind.i64 en)]) then withinF (1 : Int) (65535 : Int) (1 : Nat) (pget [((0 : Nat), AV.int IntKind.i64 n)]) else false) = false]) (s' := ⟨[(0, 2, Cont.cell (AV.bool false))], 185, 23⟩) (by kernel_rfl) (by kernel_rfl) ?_ ?_
        · simp only [All, lit1, lit2, ok1, ok2, small1, small2, cond_and, id_one, id_one', hA, hB, Bool.and_true, Bool.true_and, Bool.and_false, and_self]
        refine evC_ret ?_
        refine post_ret ?_
        refine ends_flat (vs := [AV.bool false]) (Nat.zero_lt_succ _) (by kernel_rfl) (flat_of _ (by kernel_rfl)) rfl ?_
        simp [mayF, oneAV, hA, hB]
      | true => 
        refine evC_go0 (dec := []) (ks := [(0, 1), (0, 2), (1, 0), (1, 1), (1, 2), (1, 3), (1, 4)]) (s' := ⟨[(0, 1, Cont.cell (AV.ptr 1 0)), (0, 2, Cont.cell (AV.bool false)), (1, 0, Cont.cell (AV.int IntKind.i64 m)), (1, 1, Cont.cell (AV.int IntKind.i64 en)), (1, 2, Cont.cell (AV.int IntKind.i64 n)), (1, 3, Cont.cell (AV.int IntKind.i64 d)), (1, 4, Cont.top)], 17, 23⟩) (by kernel_rfl) (by kernel_rfl) ?_
        refine evC_go (dec := [(7, true), (8, true), (9, true), (10, true), (13, true), (14, true), (15, true), (16, true), (17, true), (18, true)]) (ks := [(0, 2)]) (ps := [(∀ (i : Nat), i < (2 : Nat) → pget [((0 : Nat), AV.int IntKind.i64 m), ((1 : Nat), AV.int IntKind.i64 en)] i = AV.int IntKind.i64 (iv (pget [((0 : Nat), AV.int IntKind.i64 m), ((1 : Nat), AV.int IntKind.i64 en)] i))) ∧ (2 : Nat) < (2 : Nat) ^ (63 : Nat), List.all [withinF (0 : Int) (65535 : Int) (2 : Nat) (pget [((0 : Nat), AV.int IntKind.i64 m), ((1 : Nat), AV.int IntKind.i64 en)])] id = true, List.all [withinF (0 : Int) (65535 : Int) (2 : Nat) (pget [((0 : Nat), AV.int IntKind.i64 m), ((1 : Nat), AV.int IntKind.i64 en)])] id = true, List.all [withinF (0 : Int) (65535 : Int) (2 : Nat) (pget [((0 : Nat), AV.int IntKind.i64 m), ((1 : Nat), AV.int IntKind.i64 en)])] id = true, List.all [withinF (0 : Int) (65535 : Int) (2 : Nat) (pget [((0 : Nat), AV.int IntKind.i64 m), ((1 : Nat), AV.int IntKind.i64 en)])] id = true, (∀ (i : Nat), i < (1 : Nat) → pget [((0 : Nat), AV.int IntKind.i64 n)] i = AV.int IntKind.i64 (iv (pget [((0 : Nat), AV.int IntKind.i64 n)] i))) ∧ (1 : Nat) < (2 : Nat) ^ (63 : Nat), List.all [bif withinF (0 : Int) (65535 : Int) (2 : Nat) (pget [((0 : Nat), AV.int IntKind.i64 m), ((1 : Nat), AV.int IntKind.i64 en)]) then withinF (1 : Int) (65535 : Int) (1 : Nat) (pget [((0 : Nat), AV.int IntKind.i64 n)]) else false] id = true, List.all [bif withinF (0 : Int) (65535 : Int) (2 : Nat) (pget [((0 : Nat), AV.int IntKind.i64 m), ((1 : Nat), AV.int IntKind.i64 en)]) then withinF (1 : Int) (65535 : Int) (1 : Nat) (pget [((0 : Nat), AV.int IntKind.i64 n)]) else false] id = true, List.all [bif withinF (0 : Int) (65535 : Int) (2 : Nat) (pget [((0 : Nat), AV.int IntKind.i64 m), ((1 : Nat), AV.int IntKind.i64 en)]) then withinF (1 : Int) (65535 : Int) (1 : Nat) (pget [((0 : Nat), AV.int IntKind.i64 n)]) else false] id = true, List.all [bif withinF (0 : Int) (65535 : Int) (2 : Nat) (pget [((0 : Nat), AV.int IntKind.i64 m), ((1 : Nat), AV.int IntKind.i64 en)]) then withinF (1 : Int) (65535 : Int) (1 : Nat) (pget [((0 : Nat), AV.int IntKind.i64 n)]) else false] id = true, List.all [bif withinF (0 : Int) (65535 : Int) (2 : Nat) (pget [((0 : Nat), AV.int IntKind.i64 m), ((1 : Nat), AV.int IntKind.i64 en)]) then withinF (1 : Int) (65535 : Int) (1 : Nat) (pget [((0 : Nat), AV.int IntKind.i64 n)]) else false] id = true, List.all [bif withinF (0 : Int) (65535 : Int) (2 : Nat) (pget [((0 : Nat), AV.int IntKind.i64 m), ((1 : Nat), AV.int IntKind.i64 en)]) then withinF (1 : Int) (65535 : Int) (1 : Nat) (pget [((0 : Nat), AV.int IntKind.i64 n)]) else false] id = true, (∀ (i : Nat), i < (1 : Nat) → pget [((0 : Nat), AV.int IntKind.i64 d)] i = AV.int IntKind.i64 (iv (pget [((0 : Nat), AV.int IntKind.i64 d)] i))) ∧ (1 : Nat) < (2 : Nat) ^ (63 : Nat)]) (s' := ⟨[(0, 2, Cont.cell (AV.bool (bif bif withinF 0 65535 2 (pget [(0, AV.int IntKind.i64 m), (1, AV.int IntKind.i64 en)]) then withinF 1 65535 1 (pget [(0, AV.int IntKind.i64 n)]) else false then withinF 0 n 1 (pget [(0, AV.int IntKind.i64 d)]) else false)))], 185, 23⟩) (by kernel_rfl) (by kernel_rfl) ?_ ?_
        · simp only [All, lit1, lit2, ok1, ok2, small1, small2, cond_and, id_one, id_one', hA, hB, Bool.and_true, Bool.true_and, Bool.and_false, and_self]
        refine evC_ret ?_
        refine post_ret ?_
        refine ends_flat (vs := [AV.bool (bif bif withinF 0 65535 2 (pget [(0, AV.int IntKind.i64 m), (1, AV.int IntKind.i64 en)]) then withinF 1 65535 1 (pget [(0, AV.int IntKind.i64 n)]) else false then withinF 0 n 1 (pget [(0, AV.int IntKind.i64 d)]) else false)]) (Nat.zero_lt_succ _) (by kernel_rfl) (flat_of _ (by kernel_rfl)) rfl ?_
        simp only [lit1, lit2, cond_and]
        simp [mayF, oneAV, hA, hB]
  · cases e
def sStrong : Spec := fun args _ _ => match args with
  | [.int .i64 p] => some ⟨[], .bool (inR 0 16320 p), [], []⟩
  | _ => none
theorem strong_ok : SpecOK Try.prog 33 sStrong := by
  refine spec_own (by kernel_rfl) T_ok Γ1_ok Try.func33 rfl rfl fun args hr nb out e => ?_
  unfold sStrong at e
  split at e
  · rename_i p
    injection e with e; subst e
    refine ⟨(fun _ h => nomatch h), true, [.int .i64 p], rfl, fun hs => ⟨.cons _ _ _ _ (.same _ _ (flat_of _ rfl).has) .nil, ?_⟩⟩
    refine evC_go0 (dec := []) (ks := [(0, 0), (0, 2)]) (s' := ⟨[(0, 0, Cont.cell (AV.int IntKind.i64 p)), (0, 2, Cont.cell (AV.bool false))], 9, 6⟩) (by kernel_rfl) (by kernel_rfl) ?_
    refine evC_go (dec := []) (ks := [(0, 2)]) (ps := [(∀ (i : Nat), i < (1 : Nat) → pget [((0 : Nat), AV.int IntKind.i64 p)] i = AV.int IntKind.i64 (iv (pget [((0 : Nat), AV.int IntKind.i64 p)] i))) ∧ (1 : Nat) < (2 : Nat) ^ (63 : Nat)]) (s' := ⟨[(0, 2, Cont.cell (AV.bool (withinF 0 16320 1 (pget [(0, AV.int IntKind.i64 p)]))))], 41, 6⟩) (by kernel_rfl) (by kernel_rfl) ?_ ?_
    · simp only [All, ok1, small1, and_self]
    refine evC_ret ?_
    refine post_ret ?_
    refine ends_flat (vs := [AV.bool (withinF 0 16320 1 (pget [(0, AV.int IntKind.i64 p)]))]) (Nat.zero_lt_succ _) (by kernel_rfl) (flat_of _ (by kernel_rfl)) rfl ?_
    simp only [oneAV, lit1]
  · cases e

def partF (c d n : Int) : Int := IntKind.i64.wrap ((IntKind.i64.wrap (c * d)).tdiv n)
def sTaken : Spec := fun args _ _ => match args with
  | [.agg [.int .i64 m, .int .i64 en, .int .i64 n, .int .i64 _], .int .i64 d] => some ⟨[n ≠ 0], .agg [.int .i64 (partF m d n), .int .i64 (partF en d n)], [], []⟩
  | _ => none
theorem taken_ok : SpecOK Try.prog 34 sTaken := by
  refine spec_own (by kernel_rfl) T_ok (Γ := []) (fun f s h => by cases h) Try.func34 rfl rfl fun args hr nb out e => ?_
  unfold sTaken at e
  split at e
  · rename_i m en n d0 d
    injection e with e; subst e
    refine ⟨(fun _ h => nomatch h), true, [.agg [.int .i64 m, .int .i64 en, .int .i64 n, .int .i64 d0], .int .i64 d], rfl, fun hs => ⟨.cons _ _ _ _ (.same _ _ (flat_of _ rfl).has) (.cons _ _ _ _ (.same _ _ (flat_of _ rfl).has) .nil), ?_⟩⟩
    have hn := hs _ List.mem_cons_self
    refine evC_go0 (dec := []) (ks := [(0, 1), (0, 2), (0, 4), (1, 0), (1, 1), (1, 2), (1, 3), (1, 4), (9, 0), (9, 1), (9, 2)]) (s' := ⟨[(0, 1, Cont.cell (AV.int IntKind.i64 d)), (0, 2, Cont.cell (AV.ptr 1 0)), (0, 4, Cont.cell (AV.ptr 9 0)), (1, 0, Cont.cell (AV.int IntKind.i64 m)), (1, 1, Cont.cell (AV.int IntKind.i64 en)), (1, 2, Cont.cell (AV.int IntKind.i64 n)), (1, 3, Cont.cell (AV.int IntKind.i64 d0)), (1, 4, Cont.top), (9, 0, Cont.cell (AV.int IntKind.i64 0)), (9, 1, Cont.cell (AV.int IntKind.i64 0)), (9, 2, Cont.top)], 17, 20⟩) (by kernel_rfl) (by kernel_rfl) ?_
    refine evC_go (dec := []) (ks := [(0, 4), (9, 0), (9, 1), (9, 2)]) (ps := [n ≠ (0 : Int), n ≠ (0 : Int)]) (s' := ⟨[(0, 4, Cont.cell (AV.ptr 9 0)), (9, 0, Cont.cell (AV.int IntKind.i64 (IntKind.i64.wrap (Int.tdiv (IntKind.i64.wrap (m * d)) n)))), (9, 1, Cont.cell (AV.int IntKind.i64 (IntKind.i64.wrap (Int.tdiv (IntKind.i64.wrap (en * d)) n)))), (9, 2, Cont.top)], 145, 20⟩) (by kernel_rfl) (by kernel_rfl) ?_ ?_
    · exact ⟨hn, hn⟩
    refine evC_ret ?_
    refine post_ret ?_
    refine ends_flat (vs := [AV.agg [AV.int IntKind.i64 (IntKind.i64.wrap (Int.tdiv (IntKind.i64.wrap (m * d)) n)), AV.int IntKind.i64 (IntKind.i64.wrap (Int.tdiv (IntKind.i64.wrap (en * d)) n))]]) (Nat.zero_lt_succ _) (by kernel_rfl) (flat_of _ (by kernel_rfl)) rfl ?_
    rfl
  · cases e

def okF (m en n d p : Int) : Bool := mayF m en n d && inR 0 16320 p
theorem okF_n {m en n d p : Int} (h : okF m en n d p = true) : n ≠ 0 := by
  simp [okF, mayF, inR] at h
  omega
def nextF (c n d p : Int) (ok : Bool) : Int := bif ok then IntKind.i64.wrap (partF c (mn2 n (IntKind.i64.wrap (d + p))) n - partF c d n) else 0
def sNext : Spec := fun args _ _ => match args with
  | [.agg [.int .i64 m, .int .i64 en, .int .i64 n, .int .i64 d], .int .i64 p] =>
    some ⟨[], .tup [.agg [.int .i64 (nextF m n d p (okF m en n d p)), .int .i64 (nextF en n d p (okF m en n d p))], .int .i64 (errF (okF m en n d p))], [], []⟩
  | _ => none
theorem next_ok : SpecOK Try.prog 15 sNext := by
  refine spec_own (by kernel_rfl) T_ok (sget_cons may_ok (sget_cons strong_ok (sget_cons taken_ok sget_nil))) Try.func15 rfl rfl fun args hr nb out e => ?_
  unfold sNext at e
  split at e
  · rename_i m en n d p
    injection e with e; subst e
    refine ⟨(fun _ h => nomatch h), true, [.agg [.int .i64 m, .int .i64 en, .int .i64 n, .int .i64 d], .int .i64 p], rfl, fun hs => ⟨.cons _ _ _ _ (.same _ _ (flat_of _ rfl).has) (.cons _ _ _ _ (.same _ _ (flat_of _ rfl).has) .nil), ?_⟩⟩
    refine evC_go0 (dec := []) (ks := [(0, 1), (0, 2), (0, 4), (0, 5), (1, 0), (1, 1), (1, 2), (1, 3), (1, 4), (9, 0), (9, 1), (9, 2)]) (s' := ⟨[(0, 1, Cont.cell (AV.int IntKind.i64 p)), (0, 2, Cont.cell (AV.ptr 1 0)), (0, 4, Cont.cell (AV.ptr 9 0)), (0, 5, Cont.cell (AV.int IntKind.i64 0)), (1, 0, Cont.cell (AV.int IntKind.i64 m)), (1, 1, Cont.cell (AV.int IntKind.i64 en)), (1, 2, Cont.cell (AV.int IntKind.i64 n)), (1, 3, Cont.cell (AV.int IntKind.i64 d)), (1, 4, Cont.top), (9, 0, Cont.cell (AV.int IntKind.i64 0)), (9, 1, Cont.cell (AV.int IntKind.i64 0)), (9, 2, Cont.top)], 25, 41⟩) (by kernel_rfl) (by kernel_rfl) ?_
    refine evC_seq ?_
    refine evC_go0 (dec := []) (ks := [(0, 1), (0, 2), (0, 4), (0, 5), (0, 15), (1, 0), (1, 1), (1, 2), (1, 3), (1, 4), (9, 0), (9, 1), (9, 2)]) (s' := ⟨[(0, 1, Cont.cell (AV.int IntKind.i64 p)), (0, 2, Cont.cell (AV.ptr 1 0)), (0, 4, Cont.cell (AV.ptr 9 0)), (0, 5, Cont.cell (AV.int IntKind.i64 0)), (0, 15, Cont.cell (AV.bool (bif !mayF m en n d then true else !inR 0 16320 p))), (1, 0, Cont.cell (AV.int IntKind.i64 m)), (1, 1, Cont.cell (AV.int IntKind.i64 en)), (1, 2, Cont.cell (AV.int IntKind.i64 n)), (1, 3, Cont.cell (AV.int IntKind.i64 d)), (1, 4, Cont.top), (9, 0, Cont.cell (AV.int IntKind.i64 0)), (9, 1, Cont.cell (AV.int IntKind.i64 0)), (9, 2, Cont.top)], 89, 41⟩) (by kernel_rfl) (by kernel_rfl) ?_
    refine evC_if (q := bif !mayF m en n d then true else !inR 0 16320 p) (by kernel_rfl) (fun hc => ?_) (fun hc => ?_)
    · refine evC_go0 (dec := []) (ks := [(0, 1), (0, 2), (0, 4), (0, 5), (1, 0), (1, 1), (1, 2), (1, 3), (1, 4), (9, 0), (9, 1), (9, 2)]) (s' := ⟨[(0, 1, Cont.cell (AV.int IntKind.i64 p)), (0, 2, Cont.cell (AV.ptr 1 0)), (0, 4, Cont.cell (AV.ptr 9 0)), (0, 5, Cont.cell (AV.int IntKind.i64 1)), (1, 0, Cont.cell (AV.int IntKind.i64 m)), (1, 1, Cont.cell (AV.int IntKind.i64 en)), (1, 2, Cont.cell (AV.int IntKind.i64 n)), (1, 3, Cont.cell (AV.int IntKind.i64 d)), (1, 4, Cont.top), (9, 0, Cont.cell (AV.int IntKind.i64 0)), (9, 1, Cont.cell (AV.int IntKind.i64 0)), (9, 2, Cont.top)], 113, 41⟩) (by kernel_rfl) (by kernel_rfl) ?_
      refine evC_ret ?_
      refine then_ret ?_
      refine post_ret ?_
      refine ends_flat (vs := [AV.agg [AV.int IntKind.i64 0, AV.int IntKind.i64 0], AV.int IntKind.i64 1]) (Nat.zero_lt_succ _) (by kernel_rfl) (flat_of _ (by kernel_rfl)) rfl ?_
      have h : okF m en n d p = false := by
        simp only [okF]
        revert hc
        cases mayF m en n d <;> cases inR 0 16320 p <;> simp
      simp only [h, nextF, errF, cond_false]
      rfl
    · have h : okF m en n d p = true := by
        simp only [okF]
        revert hc
        cases mayF m en n d <;> cases inR 0 16320 p <;> simp
      have hn := okF_n h
      refine evC_skip ?_
      refine then_normal ?_
      refine evC_go (dec := []) (ks := [(0, 4), (0, 5), (0, 6), (0, 7), (9, 0), (9, 1), (9, 2), (193, 0), (193, 1), (193, 2), (201, 0), (201, 1), (201, 2)]) (ps := [n ≠ (0 : Int), n ≠ (0 : Int)]) (s' := ⟨[(0, 4, Cont.cell (AV.ptr 9 0)), (0, 5, Cont.cell (AV.int IntKind.i64 0)), (0, 6, Cont.cell (AV.ptr 193 0)), (0, 7, Cont.cell (AV.ptr 201 0)), (9, 0, Cont.cell (AV.int IntKind.i64 0)), (9, 1, Cont.cell (AV.int IntKind.i64 0)), (9, 2, Cont.top), (193, 0, Cont.cell (AV.int IntKind.i64 (partF m d n))), (193, 1, Cont.cell (AV.int IntKind.i64 (partF en d n))), (193, 2, Cont.top), (201, 0, Cont.cell (AV.int IntKind.i64 (partF m (mn2 n (IntKind.i64.wrap (d + p))) n))), (201, 1, Cont.cell (AV.int IntKind.i64 (partF en (mn2 n (IntKind.i64.wrap (d + p))) n))), (201, 2, Cont.top)], 225, 41⟩) (by kernel_rfl) (by kernel_rfl) ?_ ?_
      · exact ⟨hn, hn⟩
      refine evC_go0 (dec := []) (ks := [(0, 4), (0, 5), (9, 0), (9, 1), (9, 2)]) (s' := ⟨[(0, 4, Cont.cell (AV.ptr 9 0)), (0, 5, Cont.cell (AV.int IntKind.i64 0)), (9, 0, Cont.cell (AV.int IntKind.i64 (IntKind.i64.wrap (partF m (mn2 n (IntKind.i64.wrap (d + p))) n - partF m d n)))), (9, 1, Cont.cell (AV.int IntKind.i64 (IntKind.i64.wrap (partF en (mn2 n (IntKind.i64.wrap (d + p))) n - partF en d n)))), (9, 2, Cont.top)], 329, 41⟩) (by kernel_rfl) (by kernel_rfl) ?_
      refine evC_ret ?_
      refine post_ret ?_
      refine ends_flat (vs := [AV.agg [AV.int IntKind.i64 (IntKind.i64.wrap (partF m (mn2 n (IntKind.i64.wrap (d + p))) n - partF m d n)), AV.int IntKind.i64 (IntKind.i64.wrap (partF en (mn2 n (IntKind.i64.wrap (d + p))) n - partF en d n))], AV.int IntKind.i64 0]) (Nat.zero_lt_succ _) (by kernel_rfl) (flat_of _ (by kernel_rfl)) rfl ?_
      simp only [h, nextF, errF, cond_true]
      rfl
  · cases e

def moreF (p sc : Int) : Int := (IntKind.i64.wrap (p * sc)).fdiv (2 ^ min (Int.toNat 16) IntKind.i64.bits)
def wokF (m en n d p sc : Int) : Bool := okF m en n d p && (decide (0 ≤ sc) && decide (sc ≤ 65536))
def doneF (n d p sc : Int) : Int := mn2 n (IntKind.i64.wrap (d + moreF p sc))
def sWork : Spec := fun args _ _ => match args with
  | [.agg [.int .i64 m, .int .i64 en, .int .i64 n, .int .i64 d], .int .i64 p, .int .i64 sc] =>
    some ⟨[], .tup [.agg [.int .i64 (bif wokF m en n d p sc then m else 0), .int .i64 (bif wokF m en n d p sc then en else 0), .int .i64 (bif wokF m en n d p sc then n else 0), .int .i64 (bif wokF m en n d p sc then doneF n d p sc else 0)],
      .bool (bif wokF m en n d p sc then doneF n d p sc == n else false), .int .i64 (errF (wokF m en n d p sc))], [], []⟩
  | _ => none
theorem work_ok : SpecOK Try.prog 17 sWork := by
  refine spec_own (by kernel_rfl) T_ok (sget_cons may_ok (sget_cons strong_ok sget_nil)) Try.func17 rfl rfl fun args hr nb out e => ?_
  unfold sWork at e
  split at e
  · rename_i m en n d p sc
    injection e with e; subst e
    refine ⟨(fun _ h => nomatch h), true, [.agg [.int .i64 m, .int .i64 en, .int .i64 n, .int .i64 d], .int .i64 p, .int .i64 sc], rfl, fun hs => ⟨.cons _ _ _ _ (.same _ _ (flat_of _ rfl).has) (.cons _ _ _ _ (.same _ _ (flat_of _ rfl).has) (.cons _ _ _ _ (.same _ _ (flat_of _ rfl).has) .nil)), ?_⟩⟩
    have hlt : decide (sc < 0) = !decide (0 ≤ sc) := by by_cases h : sc < 0 <;> simp [h] <;> omega
    have hgt : decide (sc > 65536) = !decide (sc ≤ 65536) := by by_cases h : sc > 65536 <;> simp [h] <;> omega
    refine evC_go0 (dec := []) (ks := [(0, 1), (0, 2), (0, 3), (0, 6), (0, 7), (0, 8), (1, 0), (1, 1), (1, 2), (1, 3), (1, 4), (9, 0), (9, 1), (9, 2), (9, 3), (9, 4)]) (s' := ⟨[(0, 1, Cont.cell (AV.int IntKind.i64 p)), (0, 2, Cont.cell (AV.int IntKind.i64 sc)), (0, 3, Cont.cell (AV.ptr 1 0)), (0, 6, Cont.cell (AV.ptr 9 0)), (0, 7, Cont.cell (AV.bool false)), (0, 8, Cont.cell (AV.int IntKind.i64 0)), (1, 0, Cont.cell (AV.int IntKind.i64 m)), (1, 1, Cont.cell (AV.int IntKind.i64 en)), (1, 2, Cont.cell (AV.int IntKind.i64 n)), (1, 3, Cont.cell (AV.int IntKind.i64 d)), (1, 4, Cont.top), (9, 0, Cont.cell (AV.int IntKind.i64 0)), (9, 1, Cont.cell (AV.int IntKind.i64 0)), (9, 2, Cont.cell (AV.int IntKind.i64 0)), (9, 3, Cont.cell (AV.int IntKind.i64 0)), (9, 4, Cont.top)], 33, 45⟩) (by kernel_rfl) (by kernel_rfl) ?_
    refine evC_seq ?_
    refine evC_go0 (dec := []) (ks := [(0, 1), (0, 2), (0, 3), (0, 6), (0, 7), (0, 8), (0, 25), (1, 0), (1, 1), (1, 2), (1, 3), (1, 4), (9, 0), (9, 1), (9, 2), (9, 3), (9, 4)]) (s' := ⟨[(0, 1, Cont.cell (AV.int IntKind.i64 p)), (0, 2, Cont.cell (AV.int IntKind.i64 sc)), (0, 3, Cont.cell (AV.ptr 1 0)), (0, 6, Cont.cell (AV.ptr 9 0)), (0, 7, Cont.cell (AV.bool false)), (0, 8, Cont.cell (AV.int IntKind.i64 0)), (0, 25, Cont.cell (AV.bool (bif bif bif !mayF m en n d then true else !inR 0 16320 p then true else decide (sc < 0) then true else decide (sc > 65536)))), (1, 0, Cont.cell (AV.int IntKind.i64 m)), (1, 1, Cont.cell (AV.int IntKind.i64 en)), (1, 2, Cont.cell (AV.int IntKind.i64 n)), (1, 3, Cont.cell (AV.int IntKind.i64 d)), (1, 4, Cont.top), (9, 0, Cont.cell (AV.int IntKind.i64 0)), (9, 1, Cont.cell (AV.int IntKind.i64 0)), (9, 2, Cont.cell (AV.int IntKind.i64 0)), (9, 3, Cont.cell (AV.int IntKind.i64 0)), (9, 4, Cont.top)], 161, 45⟩) (by kernel_rfl) (by kernel_rfl) ?_
    refine evC_if (q := bif bif bif !mayF m en n d then true else !inR 0 16320 p then true else decide (sc < 0) then true else decide (sc > 65536)) (by kernel_rfl) (fun hc => ?_) (fun hc => ?_)
    · refine evC_go0 (dec := []) (ks := [(0, 1), (0, 2), (0, 3), (0, 6), (0, 7), (0, 8), (1, 0), (1, 1), (1, 2), (1, 3), (1, 4), (9, 0), (9, 1), (9, 2), (9, 3), (9, 4)]) (s' := ⟨[(0, 1, Cont.cell (AV.int IntKind.i64 p)), (0, 2, Cont.cell (AV.int IntKind.i64 sc)), (0, 3, Cont.cell (AV.ptr 1 0)), (0, 6, Cont.cell (AV.ptr 9 0)), (0, 7, Cont.cell (AV.bool false)), (0, 8, Cont.cell (AV.int IntKind.i64 1)), (1, 0, Cont.cell (AV.int IntKind.i64 m)), (1, 1, Cont.cell (AV.int IntKind.i64 en)), (1, 2, Cont.cell (AV.int IntKind.i64 n)), (1, 3, Cont.cell (AV.int IntKind.i64 d)), (1, 4, Cont.top), (9, 0, Cont.cell (AV.int IntKind.i64 0)), (9, 1, Cont.cell (AV.int IntKind.i64 0)), (9, 2, Cont.cell (AV.int IntKind.i64 0)), (9, 3, Cont.cell (AV.int IntKind.i64 0)), (9, 4, Cont.top)], 193, 45⟩) (by kernel_rfl) (by kernel_rfl) ?_
      refine evC_ret ?_
      refine then_ret ?_
      refine post_ret ?_
      refine ends_flat (vs := [AV.agg [AV.int IntKind.i64 0, AV.int IntKind.i64 0, AV.int IntKind.i64 0, AV.int IntKind.i64 0], AV.bool false, AV.int IntKind.i64 1]) (Nat.zero_lt_succ _) (by kernel_rfl) (flat_of _ (by kernel_rfl)) rfl ?_
      have h : wokF m en n d p sc = false := by
        simp only [wokF, okF]
        rw [hlt, hgt] at hc
        revert hc
        cases mayF m en n d <;> cases inR 0 16320 p <;> cases decide (0 ≤ sc) <;> cases decide (sc ≤ 65536) <;> simp
      simp only [h, errF, cond_false]
      rfl
    · have h : wokF m en n d p sc = true := by
        simp only [wokF, okF]
        rw [hlt, hgt] at hc
        revert hc
        cases mayF m en n d <;> cases inR 0 16320 p <;> cases decide (0 ≤ sc) <;> cases decide (sc ≤ 65536) <;> simp
      refine evC_skip ?_
      refine then_normal ?_
      refine evC_go (dec := []) (ks := [(0, 3), (0, 6), (0, 7), (0, 8), (0, 9), (1, 0), (1, 1), (1, 2), (1, 3), (1, 4), (9, 0), (9, 1), (9, 2), (9, 3), (9, 4)]) (ps := [(0 : Int) ≤ (16 : Int)]) (s' := ⟨[(0, 3, Cont.cell (AV.ptr 1 0)), (0, 6, Cont.cell (AV.ptr 9 0)), (0, 7, Cont.cell (AV.bool false)), (0, 8, Cont.cell (AV.int IntKind.i64 0)), (0, 9, Cont.cell (AV.int IntKind.i64 (Int.fdiv (IntKind.i64.wrap (p * sc)) (2 ^ min (Int.toNat 16) (IntKind.bits IntKind.i64))))), (1, 0, Cont.cell (AV.int IntKind.i64 m)), (1, 1, Cont.cell (AV.int IntKind.i64 en)), (1, 2, Cont.cell (AV.int IntKind.i64 n)), (1, 3, Cont.cell (AV.int IntKind.i64 d)), (1, 4, Cont.top), (9, 0, Cont.cell (AV.int IntKind.i64 0)), (9, 1, Cont.cell (AV.int IntKind.i64 0)), (9, 2, Cont.cell (AV.int IntKind.i64 0)), (9, 3, Cont.cell (AV.int IntKind.i64 0)), (9, 4, Cont.top)], 201, 45⟩) (by kernel_rfl) (by kernel_rfl) ?_ ?_
      · simp [All]
      refine evC_go0 (dec := []) (ks := [(0, 3), (0, 6), (0, 7), (0, 8), (1, 0), (1, 1), (1, 2), (1, 3), (1, 4), (9, 0), (9, 1), (9, 2), (9, 3), (9, 4)]) (s' := ⟨[(0, 3, Cont.cell (AV.ptr 1 0)), (0, 6, Cont.cell (AV.ptr 9 0)), (0, 7, Cont.cell (AV.bool false)), (0, 8, Cont.cell (AV.int IntKind.i64 0)), (1, 0, Cont.cell (AV.int IntKind.i64 m)), (1, 1, Cont.cell (AV.int IntKind.i64 en)), (1, 2, Cont.cell (AV.int IntKind.i64 n)), (1, 3, Cont.cell (AV.int IntKind.i64 (mn2 n (IntKind.i64.wrap (d + Int.fdiv (IntKind.i64.wrap (p * sc)) (2 ^ min (Int.toNat 16) (IntKind.bits IntKind.i64))))))), (1, 4, Cont.top), (9, 0, Cont.cell (AV.int IntKind.i64 0)), (9, 1, Cont.cell (AV.int IntKind.i64 0)), (9, 2, Cont.cell (AV.int IntKind.i64 0)), (9, 3, Cont.cell (AV.int IntKind.i64 0)), (9, 4, Cont.top)], 273, 45⟩) (by kernel_rfl) (by kernel_rfl) ?_
      refine evC_go0 (dec := []) (ks := [(0, 6), (0, 7), (0, 8), (9, 0), (9, 1), (9, 2), (9, 3), (9, 4)]) (s' := ⟨[(0, 6, Cont.cell (AV.ptr 9 0)), (0, 7, Cont.cell (AV.bool (mn2 n (IntKind.i64.wrap (d + Int.fdiv (IntKind.i64.wrap (p * sc)) (2 ^ min (Int.toNat 16) (IntKind.bits IntKind.i64)))) == n))), (0, 8, Cont.cell (AV.int IntKind.i64 0)), (9, 0, Cont.cell (AV.int IntKind.i64 m)), (9, 1, Cont.cell (AV.int IntKind.i64 en)), (9, 2, Cont.cell (AV.int IntKind.i64 n)), (9, 3, Cont.cell (AV.int IntKind.i64 (mn2 n (IntKind.i64.wrap (d + Int.fdiv (IntKind.i64.wrap (p * sc)) (2 ^ min (Int.toNat 16) (IntKind.bits IntKind.i64))))))), (9, 4, Cont.top)], 345, 45⟩) (by kernel_rfl) (by kernel_rfl) ?_
      refine evC_ret ?_
      refine post_ret ?_
      refine ends_flat (vs := [AV.agg [AV.int IntKind.i64 m, AV.int IntKind.i64 en, AV.int IntKind.i64 n, AV.int IntKind.i64 (mn2 n (IntKind.i64.wrap (d + Int.fdiv (IntKind.i64.wrap (p * sc)) (2 ^ min (Int.toNat 16) (IntKind.bits IntKind.i64)))))], AV.bool (mn2 n (IntKind.i64.wrap (d + Int.fdiv (IntKind.i64.wrap (p * sc)) (2 ^ min (Int.toNat 16) (IntKind.bits IntKind.i64)))) == n), AV.int IntKind.i64 0]) (Nat.zero_lt_succ _) (by kernel_rfl) (flat_of _ (by kernel_rfl)) rfl ?_
      simp only [h, errF, cond_true]
      rfl
  · cases e
end Go.Eng.S26
