/- Seat top, land: the least and the greatest, parts of numbers, places on a map, walked. -/
import Derived.Test.YthfpdhhnokhldaaEngX
import Derived.Test.YthfpdhhnokhldaaS27B
set_option linter.unusedSimpArgs false
set_option linter.unusedVariables false
namespace Go.Eng.S27
open Go.Proofs Go.IntWalk
set_option maxRecDepth 10000

def leastN (c : Nat → Int) : Nat → Int
  | 0 => c 0
  | n + 1 => mn2 (leastN c n) (c n)
def mostN (c : Nat → Int) : Nat → Int
  | 0 => c 0
  | n + 1 => mx2 (mostN c n) (c n)
def nI (c : Nat → Int) : Nat → AV := fun i => .int .i64 (c i)
def If (f : Nat → AV) : Nat → Int := fun i => iv (f i)
def sLeast : Spec := fun args hr _ => match args with
  | [v] => match sl 1 hr v with
    | some (n, f, rd) => some ⟨[(∀ i, i < n → f i = nI (If f) i), 1 ≤ n ∧ n ≤ 1000], .int .i64 (leastN (If f) n), rd, []⟩
    | none => none
  | _ => none
def sMost : Spec := fun args hr _ => match args with
  | [v] => match sl 1 hr v with
    | some (n, f, rd) => some ⟨[(∀ i, i < n → f i = nI (If f) i), 1 ≤ n ∧ n ≤ 1000], .int .i64 (mostN (If f) n), rd, []⟩
    | none => none
  | _ => none
theorem least_ok : SpecOK Try.prog 41 sLeast := by
  refine spec_own (by kernel_rfl) T_ok sget_nil Try.func41 rfl rfl fun args hr nb out e => ?_
  unfold sLeast at e
  split at e
  · rename_i v
    split at e
    · rename_i n f rd hs1
      injection e with e; subst e
      refine ⟨fun x hx => sl_rd hs1 x hx, false, [.rs 1 n false (nI (If f))], rfl, fun hs => ?_⟩
      have h1 := hs _ List.mem_cons_self
      obtain ⟨h2, h3⟩ := hs _ (List.mem_cons_of_mem _ List.mem_cons_self)
      refine ⟨.cons _ _ _ _ (.slice _ _ _ _ _ hs1 (fun y hy => ⟨hy, by simp⟩) _ fun i hi => ⟨h1 i hi, .int _ _⟩) .nil, ?_⟩
      clear hs h1
      generalize If f = c
      refine evC_go0 (dec := []) (ks := [(0, 0), (0, 2)]) (s' := ⟨[(0, 0, Cont.cell (AV.rs 1 n false (nI c))), (0, 2, Cont.cell (AV.int IntKind.i64 0))], 9, 20⟩) (by kernel_rfl) (by kernel_rfl) ?_
      refine evC_go (dec := []) (ks := [(0, 0), (0, 2), (0, 3)]) (ps := [(0 : Int) ≤ (0 : Int), (0 : Int) < (↑n : Int), (1 : Nat) = (1 : Nat)]) (s' := ⟨[(0, 0, Cont.cell (AV.rs 1 n false (nI c))), (0, 2, Cont.cell (AV.int IntKind.i64 0)), (0, 3, Cont.cell (AV.int IntKind.i64 (c (Int.toNat 0))))], 41, 20⟩) (by kernel_rfl) (by kernel_rfl) ?_ ?_
      · (simp only [All]; (repeat' apply And.intro) <;> (try intro _) <;> (try intro _) <;> (repeat' apply And.intro) <;> (try intro _) <;> (try intro _) <;> first | trivial | assumption | exact .inr trivial | exact .inr rfl | omega | rfl | exact ⟨_, rfl, rfl⟩ | exact ⟨rfl, rfl⟩ | exact ⟨fun _ => rfl, fun _ => rfl⟩ | (unfold maxLen; omega) | (unfold i64R; first | omega | decide) | decide)
      refine evC_seq ?_
      refine evC_go0 (dec := []) (ks := [(0, 2), (0, 3), (0, 9), (0, 10), (0, 11)]) (s' := ⟨[(0, 2, Cont.cell (AV.int IntKind.i64 0)), (0, 3, Cont.cell (AV.int IntKind.i64 (c (Int.toNat 0)))), (0, 9, Cont.cell (AV.rs 1 n false (nI c))), (0, 10, Cont.cell (AV.int IntKind.i64 (↑n : Int))), (0, 11, Cont.cell (AV.int IntKind.i64 0))], 65, 20⟩) (by kernel_rfl) (by kernel_rfl) ?_
      refine evC_block ?_
      refine evC_loop (ι := { i : Nat // i ≤ n }) (fun x => ⟨[(0, 2, Cont.cell (AV.int IntKind.i64 0)), (0, 3, .cell (.int .i64 (leastN c x.1))), (0, 9, Cont.cell (AV.rs 1 n false (nI c))), (0, 10, Cont.cell (AV.int IntKind.i64 (↑n : Int))), (0, 11, .cell (.int .i64 (x.1 : Nat)))], 1, 20⟩) (fun x => n - x.1) ⟨0, Nat.zero_le _⟩ (wk_go [] rfl (by decide) rfl rfl ⟨⟨_, rfl, rfl⟩, ⟨_, rfl, rfl⟩, ⟨_, rfl, rfl⟩, ⟨_, rfl, rfl⟩, ⟨_, rfl, rfl⟩, trivial⟩) ?_
      rintro ⟨i, hi⟩
      refine evC_go0 (dec := []) (ks := [(0, 2), (0, 3), (0, 9), (0, 10), (0, 11), (0, 12)]) (s' := ⟨[(0, 2, Cont.cell (AV.int IntKind.i64 0)), (0, 3, Cont.cell (AV.int IntKind.i64 (leastN c i))), (0, 9, Cont.cell (AV.rs 1 n false (nI c))), (0, 10, Cont.cell (AV.int IntKind.i64 (↑n : Int))), (0, 11, Cont.cell (AV.int IntKind.i64 (↑i : Int))), (0, 12, Cont.cell (AV.bool (decide ((↑i : Int) < (↑n : Int)))))], 9, 20⟩) (by kernel_rfl) (by kernel_rfl) ?_
      refine evC_seq ?_
      refine evC_if (q := decide ((↑i : Int) < (↑n : Int))) (by kernel_rfl) (fun hc => ?_) (fun hc => ?_)
      · have hlt : i < n := by have := of_decide_eq_true hc; omega
        clear hc
        refine evC_skip ?_
        refine then_normal ?_
        refine evC_seq ?_
        refine evC_block ?_
        refine evC_go (dec := []) (ks := [(0, 2), (0, 3), (0, 5), (0, 9), (0, 10), (0, 11)]) (ps := [(0 : Int) ≤ (↑i : Int), (↑i : Int) < (↑n : Int), (1 : Nat) = (1 : Nat)]) (s' := ⟨[(0, 2, Cont.cell (AV.int IntKind.i64 0)), (0, 3, Cont.cell (AV.int IntKind.i64 (leastN c i))), (0, 5, Cont.cell (AV.int IntKind.i64 (c i))), (0, 9, Cont.cell (AV.rs 1 n false (nI c))), (0, 10, Cont.cell (AV.int IntKind.i64 (↑n : Int))), (0, 11, Cont.cell (AV.int IntKind.i64 (↑i : Int)))], 33, 20⟩) (by kernel_rfl) (by kernel_rfl) ?_ ?_
        · (simp only [All]; (repeat' apply And.intro) <;> (try intro _) <;> (try intro _) <;> (repeat' apply And.intro) <;> (try intro _) <;> (try intro _) <;> first | trivial | assumption | exact .inr trivial | exact .inr rfl | omega | rfl | exact ⟨_, rfl, rfl⟩ | exact ⟨rfl, rfl⟩ | exact ⟨fun _ => rfl, fun _ => rfl⟩ | (unfold maxLen; omega) | (unfold i64R; first | omega | decide) | decide)
        refine evC_goL0 (dec := []) (ks := [(0, 2), (0, 3), (0, 9), (0, 10), (0, 11)]) (s' := ⟨[(0, 2, Cont.cell (AV.int IntKind.i64 0)), (0, 3, Cont.cell (AV.int IntKind.i64 (mn2 (leastN c i) (c i)))), (0, 9, Cont.cell (AV.rs 1 n false (nI c))), (0, 10, Cont.cell (AV.int IntKind.i64 (↑n : Int))), (0, 11, Cont.cell (AV.int IntKind.i64 (↑i : Int)))], 65, 20⟩) (by kernel_rfl) (by kernel_rfl) ?_
        refine block_normal ?_
        refine then_normal ?_
        refine evC_goL0 (dec := []) (ks := [(0, 2), (0, 3), (0, 9), (0, 10), (0, 11)]) (s' := ⟨[(0, 2, Cont.cell (AV.int IntKind.i64 0)), (0, 3, Cont.cell (AV.int IntKind.i64 (mn2 (leastN c i) (c i)))), (0, 9, Cont.cell (AV.rs 1 n false (nI c))), (0, 10, Cont.cell (AV.int IntKind.i64 (↑n : Int))), (0, 11, Cont.cell (AV.int IntKind.i64 (IntKind.i64.wrap ((↑i : Int) + 1))))], 81, 20⟩) (by kernel_rfl) (by kernel_rfl) ?_
        rw [wrap_add_one hlt (by omega)]
        refine round_normal (⟨i + 1, hlt⟩) (wk_go [] rfl (by decide) rfl rfl ⟨⟨_, rfl, rfl⟩, ⟨_, rfl, rfl⟩, ⟨_, rfl, rfl⟩, ⟨_, rfl, rfl⟩, ⟨_, rfl, rfl⟩, trivial⟩) ?_
        · show n - (i + 1) < n - i
          omega
      · have hlt : i = n := by have := of_decide_eq_false hc; omega
        subst hlt
        refine evC_exit ?_
        refine then_exit ?_
        refine round_exit ?_
        refine block_exit ?_
        refine then_normal ?_
        refine evC_go0 (dec := []) (ks := [(0, 2)]) (s' := ⟨[(0, 2, Cont.cell (AV.int IntKind.i64 (leastN c i)))], 25, 20⟩) (by kernel_rfl) (by kernel_rfl) ?_
        refine evC_ret ?_
        refine post_ret ?_
        refine ends_flat (vs := [AV.int IntKind.i64 (leastN c i)]) (Nat.zero_lt_succ _) (by kernel_rfl) (flat_of _ (by kernel_rfl)) rfl ?_
        rfl
    · cases e
  · cases e
theorem most_ok : SpecOK Try.prog 40 sMost := by
  refine spec_own (by kernel_rfl) T_ok sget_nil Try.func40 rfl rfl fun args hr nb out e => ?_
  unfold sMost at e
  split at e
  · rename_i v
    split at e
    · rename_i n f rd hs1
      injection e with e; subst e
      refine ⟨fun x hx => sl_rd hs1 x hx, false, [.rs 1 n false (nI (If f))], rfl, fun hs => ?_⟩
      have h1 := hs _ List.mem_cons_self
      obtain ⟨h2, h3⟩ := hs _ (List.mem_cons_of_mem _ List.mem_cons_self)
      refine ⟨.cons _ _ _ _ (.slice _ _ _ _ _ hs1 (fun y hy => ⟨hy, by simp⟩) _ fun i hi => ⟨h1 i hi, .int _ _⟩) .nil, ?_⟩
      clear hs h1
      generalize If f = c
      refine evC_go0 (dec := []) (ks := [(0, 0), (0, 2)]) (s' := ⟨[(0, 0, Cont.cell (AV.rs 1 n false (nI c))), (0, 2, Cont.cell (AV.int IntKind.i64 0))], 9, 20⟩) (by kernel_rfl) (by kernel_rfl) ?_
      refine evC_go (dec := []) (ks := [(0, 0), (0, 2), (0, 3)]) (ps := [(0 : Int) ≤ (0 : Int), (0 : Int) < (↑n : Int), (1 : Nat) = (1 : Nat)]) (s' := ⟨[(0, 0, Cont.cell (AV.rs 1 n false (nI c))), (0, 2, Cont.cell (AV.int IntKind.i64 0)), (0, 3, Cont.cell (AV.int IntKind.i64 (c (Int.toNat 0))))], 41, 20⟩) (by kernel_rfl) (by kernel_rfl) ?_ ?_
      · (simp only [All]; (repeat' apply And.intro) <;> (try intro _) <;> (try intro _) <;> (repeat' apply And.intro) <;> (try intro _) <;> (try intro _) <;> first | trivial | assumption | exact .inr trivial | exact .inr rfl | omega | rfl | exact ⟨_, rfl, rfl⟩ | exact ⟨rfl, rfl⟩ | exact ⟨fun _ => rfl, fun _ => rfl⟩ | (unfold maxLen; omega) | (unfold i64R; first | omega | decide) | decide)
      refine evC_seq ?_
      refine evC_go0 (dec := []) (ks := [(0, 2), (0, 3), (0, 9), (0, 10), (0, 11)]) (s' := ⟨[(0, 2, Cont.cell (AV.int IntKind.i64 0)), (0, 3, Cont.cell (AV.int IntKind.i64 (c (Int.toNat 0)))), (0, 9, Cont.cell (AV.rs 1 n false (nI c))), (0, 10, Cont.cell (AV.int IntKind.i64 (↑n : Int))), (0, 11, Cont.cell (AV.int IntKind.i64 0))], 65, 20⟩) (by kernel_rfl) (by kernel_rfl) ?_
      refine evC_block ?_
      refine evC_loop (ι := { i : Nat // i ≤ n }) (fun x => ⟨[(0, 2, Cont.cell (AV.int IntKind.i64 0)), (0, 3, .cell (.int .i64 (mostN c x.1))), (0, 9, Cont.cell (AV.rs 1 n false (nI c))), (0, 10, Cont.cell (AV.int IntKind.i64 (↑n : Int))), (0, 11, .cell (.int .i64 (x.1 : Nat)))], 1, 20⟩) (fun x => n - x.1) ⟨0, Nat.zero_le _⟩ (wk_go [] rfl (by decide) rfl rfl ⟨⟨_, rfl, rfl⟩, ⟨_, rfl, rfl⟩, ⟨_, rfl, rfl⟩, ⟨_, rfl, rfl⟩, ⟨_, rfl, rfl⟩, trivial⟩) ?_
      rintro ⟨i, hi⟩
      refine evC_go0 (dec := []) (ks := [(0, 2), (0, 3), (0, 9), (0, 10), (0, 11), (0, 12)]) (s' := ⟨[(0, 2, Cont.cell (AV.int IntKind.i64 0)), (0, 3, Cont.cell (AV.int IntKind.i64 (mostN c i))), (0, 9, Cont.cell (AV.rs 1 n false (nI c))), (0, 10, Cont.cell (AV.int IntKind.i64 (↑n : Int))), (0, 11, Cont.cell (AV.int IntKind.i64 (↑i : Int))), (0, 12, Cont.cell (AV.bool (decide ((↑i : Int) < (↑n : Int)))))], 9, 20⟩) (by kernel_rfl) (by kernel_rfl) ?_
      refine evC_seq ?_
      refine evC_if (q := decide ((↑i : Int) < (↑n : Int))) (by kernel_rfl) (fun hc => ?_) (fun hc => ?_)
      · have hlt : i < n := by have := of_decide_eq_true hc; omega
        clear hc
        refine evC_skip ?_
        refine then_normal ?_
        refine evC_seq ?_
        refine evC_block ?_
        refine evC_go (dec := []) (ks := [(0, 2), (0, 3), (0, 5), (0, 9), (0, 10), (0, 11)]) (ps := [(0 : Int) ≤ (↑i : Int), (↑i : Int) < (↑n : Int), (1 : Nat) = (1 : Nat)]) (s' := ⟨[(0, 2, Cont.cell (AV.int IntKind.i64 0)), (0, 3, Cont.cell (AV.int IntKind.i64 (mostN c i))), (0, 5, Cont.cell (AV.int IntKind.i64 (c i))), (0, 9, Cont.cell (AV.rs 1 n false (nI c))), (0, 10, Cont.cell (AV.int IntKind.i64 (↑n : Int))), (0, 11, Cont.cell (AV.int IntKind.i64 (↑i : Int)))], 33, 20⟩) (by kernel_rfl) (by kernel_rfl) ?_ ?_
        · (simp only [All]; (repeat' apply And.intro) <;> (try intro _) <;> (try intro _) <;> (repeat' apply And.intro) <;> (try intro _) <;> (try intro _) <;> first | trivial | assumption | exact .inr trivial | exact .inr rfl | omega | rfl | exact ⟨_, rfl, rfl⟩ | exact ⟨rfl, rfl⟩ | exact ⟨fun _ => rfl, fun _ => rfl⟩ | (unfold maxLen; omega) | (unfold i64R; first | omega | decide) | decide)
        refine evC_goL0 (dec := []) (ks := [(0, 2), (0, 3), (0, 9), (0, 10), (0, 11)]) (s' := ⟨[(0, 2, Cont.cell (AV.int IntKind.i64 0)), (0, 3, Cont.cell (AV.int IntKind.i64 (mx2 (mostN c i) (c i)))), (0, 9, Cont.cell (AV.rs 1 n false (nI c))), (0, 10, Cont.cell (AV.int IntKind.i64 (↑n : Int))), (0, 11, Cont.cell (AV.int IntKind.i64 (↑i : Int)))], 65, 20⟩) (by kernel_rfl) (by kernel_rfl) ?_
        refine block_normal ?_
        refine then_normal ?_
        refine evC_goL0 (dec := []) (ks := [(0, 2), (0, 3), (0, 9), (0, 10), (0, 11)]) (s' := ⟨[(0, 2, Cont.cell (AV.int IntKind.i64 0)), (0, 3, Cont.cell (AV.int IntKind.i64 (mx2 (mostN c i) (c i)))), (0, 9, Cont.cell (AV.rs 1 n false (nI c))), (0, 10, Cont.cell (AV.int IntKind.i64 (↑n : Int))), (0, 11, Cont.cell (AV.int IntKind.i64 (IntKind.i64.wrap ((↑i : Int) + 1))))], 81, 20⟩) (by kernel_rfl) (by kernel_rfl) ?_
        rw [wrap_add_one hlt (by omega)]
        refine round_normal (⟨i + 1, hlt⟩) (wk_go [] rfl (by decide) rfl rfl ⟨⟨_, rfl, rfl⟩, ⟨_, rfl, rfl⟩, ⟨_, rfl, rfl⟩, ⟨_, rfl, rfl⟩, ⟨_, rfl, rfl⟩, trivial⟩) ?_
        · show n - (i + 1) < n - i
          omega
      · have hlt : i = n := by have := of_decide_eq_false hc; omega
        subst hlt
        refine evC_exit ?_
        refine then_exit ?_
        refine round_exit ?_
        refine block_exit ?_
        refine then_normal ?_
        refine evC_go0 (dec := []) (ks := [(0, 2)]) (s' := ⟨[(0, 2, Cont.cell (AV.int IntKind.i64 (mostN c i)))], 25, 20⟩) (by kernel_rfl) (by kernel_rfl) ?_
        refine evC_ret ?_
        refine post_ret ?_
        refine ends_flat (vs := [AV.int IntKind.i64 (mostN c i)]) (Nat.zero_lt_succ _) (by kernel_rfl) (flat_of _ (by kernel_rfl)) rfl ?_
        rfl
    · cases e
  · cases e

/-! ### Parts of numbers -/
def sWhole : Spec := fun args _ _ => match args with
  | [.int .i64 x] => some ⟨[], .int .i64 (x / 65536), [], []⟩
  | _ => none
theorem whole_ok : SpecOK Try.prog 24 sWhole := by
  refine spec_own (by kernel_rfl) T_ok sget_nil Try.func24 rfl rfl fun args hr nb out e => ?_
  unfold sWhole at e
  split at e
  · rename_i x
    injection e with e; subst e
    refine ⟨(fun _ h => nomatch h), true, [.int .i64 x], rfl, fun hs => ⟨.cons _ _ _ _ (.same _ _ (.int _ _)) .nil, ?_⟩⟩
    refine evC_go0 (dec := []) (ks := [(0, 0), (0, 2)]) (s' := ⟨[(0, 0, Cont.cell (AV.int IntKind.i64 x)), (0, 2, Cont.cell (AV.int IntKind.i64 0))], 9, 5⟩) (by kernel_rfl) (by kernel_rfl) ?_
    refine evC_go (dec := []) (ks := [(0, 2)]) (ps := [(0 : Int) ≤ (16 : Int)]) (s' := ⟨[(0, 2, Cont.cell (AV.int IntKind.i64 (Int.fdiv x (2 ^ min (Int.toNat 16) (IntKind.bits IntKind.i64)))))], 33, 5⟩) (by kernel_rfl) (by kernel_rfl) ?_ ?_
    · (simp only [All]; (repeat' apply And.intro) <;> (try intro _) <;> (try intro _) <;> (repeat' apply And.intro) <;> (try intro _) <;> (try intro _) <;> first | trivial | assumption | exact .inr trivial | exact .inr rfl | omega | rfl | exact ⟨_, rfl, rfl⟩ | exact ⟨rfl, rfl⟩ | exact ⟨fun _ => rfl, fun _ => rfl⟩ | (unfold maxLen; omega) | (unfold i64R; first | omega | decide) | decide)
    refine evC_ret ?_
    refine post_ret ?_
    refine ends_flat (vs := [AV.int IntKind.i64 (Int.fdiv x (2 ^ min (Int.toNat 16) (IntKind.bits IntKind.i64)))]) (Nat.zero_lt_succ _) (by kernel_rfl) (flat_of _ (by kernel_rfl)) rfl ?_
    refine congrArg (AV.int .i64) ?_
    show x / 65536 = x.fdiv 65536
    rw [Int.fdiv_eq_ediv_of_nonneg _ (by decide)]
  · cases e
theorem and_part {x : Int} (h : 0 ≤ x ∧ x < 9223372036854775808) : IntKind.i64.wrap (BitVec.ofInt 64 x &&& BitVec.ofInt 64 65535).toNat = x % 65536 := by
  obtain ⟨x, rfl⟩ := Int.eq_ofNat_of_zero_le h.1
  have e1 : (BitVec.ofInt 64 (x : Int)).toNat = x := by
    rw [BitVec.toNat_ofInt]
    show ((x : Int) % (2 ^ 64 : Nat)).toNat = x
    rw [Int.emod_eq_of_lt (by omega) (by show (x : Int) < 18446744073709551616; omega)]
    rfl
  have e2 : (BitVec.ofInt 64 65535).toNat = 2 ^ 16 - 1 := by decide
  rw [BitVec.toNat_and, e1, e2, Nat.and_two_pow_sub_one_eq_mod]
  have : x % 2 ^ 16 < 65536 := Nat.mod_lt _ (by decide)
  rw [i64_in _ (by omega)]
  show ((x % 65536 : Nat) : Int) = _
  omega
def sPart : Spec := fun args _ _ => match args with
  | [.int .i64 x] => some ⟨[0 ≤ x ∧ x < 9223372036854775808], .int .i64 (x % 65536), [], []⟩
  | _ => none
theorem part_ok : SpecOK Try.prog 25 sPart := by
  refine spec_own (by kernel_rfl) T_ok sget_nil Try.func25 rfl rfl fun args hr nb out e => ?_
  unfold sPart at e
  split at e
  · rename_i x
    injection e with e; subst e
    refine ⟨(fun _ h => nomatch h), true, [.int .i64 x], rfl, fun hs => ⟨.cons _ _ _ _ (.same _ _ (.int _ _)) .nil, ?_⟩⟩
    have h := hs _ List.mem_cons_self
    clear hs
    refine evC_go0 (dec := []) (ks := [(0, 0), (0, 2)]) (s' := ⟨[(0, 0, Cont.cell (AV.int IntKind.i64 x)), (0, 2, Cont.cell (AV.int IntKind.i64 0))], 9, 5⟩) (by kernel_rfl) (by kernel_rfl) ?_
    refine evC_go0 (dec := []) (ks := [(0, 2)]) (s' := ⟨[(0, 2, Cont.cell (AV.int IntKind.i64 (IntKind.i64.wrap (↑(BitVec.toNat (BitVec.ofInt (IntKind.bits IntKind.i64) x &&& BitVec.ofInt (IntKind.bits IntKind.i64) 65535)) : Int))))], 33, 5⟩) (by kernel_rfl) (by kernel_rfl) ?_
    refine evC_ret ?_
    refine post_ret ?_
    refine ends_flat (vs := [AV.int IntKind.i64 (IntKind.i64.wrap (↑(BitVec.toNat (BitVec.ofInt (IntKind.bits IntKind.i64) x &&& BitVec.ofInt (IntKind.bits IntKind.i64) 65535)) : Int))]) (Nat.zero_lt_succ _) (by kernel_rfl) (flat_of _ (by kernel_rfl)) rfl ?_
    exact congrArg (AV.int .i64) (and_part h).symm
  · cases e

/-! ### Places -/
def onB (W H A : Int) (n : Nat) (x y : Int) : Bool := decide (chk W H A n = 0) && decide (0 ≤ x) && decide (x < W * 65536) && decide (0 ≤ y) && decide (y < H * 65536)
def sOn : Spec := fun args hr _ => match args with
  | [.agg [.int .i64 W, .int .i64 H, .int .i64 A, v], .int .i64 x, .int .i64 y] => match sl 1 hr v with
    | some (n, f, rd) => some ⟨[IsU n f], .bool (onB W H A n x y), rd, []⟩
    | none => none
  | _ => none
theorem on_ok : SpecOK Try.prog 10 sOn := by
  refine spec_own (by kernel_rfl) T_ok (sget_cons check_ok sget_nil) Try.func10 rfl rfl fun args hr nb out e => ?_
  unfold sOn at e
  split at e
  · rename_i W H A v x y
    split at e
    · rename_i n f rd hs1
      injection e with e; subst e
      refine ⟨fun x hx => sl_rd hs1 x hx, false, [mp4 W H A n (U f), .int .i64 x, .int .i64 y], rfl, fun hs => ?_⟩
      have h1 := hs _ List.mem_cons_self
      refine ⟨map_pass hs1 (fun y hy => ⟨hy, by simp⟩) h1 (.cons _ _ _ _ (.same _ _ (.int _ _)) (.cons _ _ _ _ (.same _ _ (.int _ _)) .nil)), ?_⟩
      have i1 : IsU n (nU (U f)) := isU fun i hi => (h1.get i hi).2
      clear hs h1
      generalize U f = u at i1 ⊢
      unfold mp4
      refine evC_go0 (dec := []) (ks := [(0, 1), (0, 2), (0, 3), (0, 6), (1, 0), (1, 1), (1, 2), (1, 3), (1, 4)]) (s' := ⟨[(0, 1, Cont.cell (AV.int IntKind.i64 x)), (0, 2, Cont.cell (AV.int IntKind.i64 y)), (0, 3, Cont.cell (AV.ptr 1 0)), (0, 6, Cont.cell (AV.bool false)), (1, 0, Cont.cell (AV.int IntKind.i64 W)), (1, 1, Cont.cell (AV.int IntKind.i64 H)), (1, 2, Cont.cell (AV.int IntKind.i64 A)), (1, 3, Cont.cell (AV.rs 1 n false (nU u))), (1, 4, Cont.top)], 17, 32⟩) (by kernel_rfl) (by kernel_rfl) ?_
      refine evC_go (dec := []) (ks := [(0, 6)]) (ps := [IsU n (nU u)]) (s' := ⟨[(0, 6, Cont.cell (AV.bool (bif bif bif bif chk W H A n == 0 then decide (x ≥ 0) else false then decide (x < IntKind.i64.wrap (W * 65536)) else false then decide (y ≥ 0) else false then decide (y < IntKind.i64.wrap (H * 65536)) else false)))], 225, 32⟩) (by kernel_rfl) (by kernel_rfl) ?_ ?_
      · exact i1
      refine evC_ret ?_
      refine post_ret ?_
      refine ends_flat (vs := [AV.bool (bif bif bif bif chk W H A n == 0 then decide (x ≥ 0) else false then decide (x < IntKind.i64.wrap (W * 65536)) else false then decide (y ≥ 0) else false then decide (y < IntKind.i64.wrap (H * 65536)) else false)]) (Nat.zero_lt_succ _) (by kernel_rfl) (flat_of _ (by kernel_rfl)) rfl ?_
      refine congrArg AV.bool ?_
      simp only [cond_and, ge_iff_le]
      unfold onB
      by_cases h0 : chk W H A n = 0
      · obtain ⟨r1, r2, _⟩ := rightD_get (chk_get h0).1
        rw [i64_in (W * 65536) (by omega), i64_in (H * 65536) (by omega)]
        simp [h0]
      · have e1 : (chk W H A n == 0) = false := by simpa using h0
        rw [e1, decide_eq_false h0]
        simp
    · cases e
  · cases e
end Go.Eng.S27
