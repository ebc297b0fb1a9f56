/- Seat 20: lines, walked. -/
import Derived.Test.YtbknbkbimhjlnaaEngX
import Derived.Test.YtbknbkbimhjlnaaS20J
set_option linter.unusedSimpArgs false
set_option linter.unusedVariables false
namespace Go.Eng.S20
open Go.Proofs Go.IntWalk
set_option maxRecDepth 10000

def nI (w : Nat → Int) : Nat → AV := fun i => .int .i64 (w i)
theorem nI_flat (w : Nat → Int) (i : Nat) : Flat (nI w i) := .int _ _
def W (f : Nat → AV) : Nat → Int := fun i => iv (f i)
theorem W_nI (w : Nat → Int) : W (nI w) = w := rfl
def lineF (n : Nat) (w : Nat → Int) : Bool := Nat.ble n 8 && (List.range n).all fun i => inR 0 15 (w i)
theorem within_nI (n : Nat) (w : Nat → Int) : withinF 0 15 n (nI w) = (List.range n).all fun i => inR 0 15 (w i) := rfl

def sLine : Spec := fun args hr _ => match args with
  | [v] => match sl 1 hr v with
    | some (n, f, rd) => some ⟨[(∀ i, i < n → f i = nI (W f) i) ∧ n ≤ maxLen], .bool (lineF n (W f)), rd, []⟩
    | _ => none
  | _ => none
theorem ble8 (n : Nat) : decide ((n : Int) ≤ 8) = Nat.ble n 8 := by
  rw [Bool.eq_iff_iff]; simp; omega
theorem line_ok : SpecOK Try.prog 30 sLine := by
  refine spec_own (by kernel_rfl) T_ok (sget_cons within_ok sget_nil) Try.func30 rfl rfl fun args hr nb out e => ?_
  unfold sLine at e
  split at e
  · rename_i v
    split at e
    · rename_i n f rd hs1
      injection e with e; subst e
      refine ⟨sl_rd hs1, false, [.rs 1 n false (nI (W f))], rfl, fun hs => ?_⟩
      obtain ⟨h1, h2⟩ := hs _ List.mem_cons_self
      refine ⟨.cons _ _ _ _ (.slice _ _ _ _ _ hs1 (fun y hy => ⟨hy, by simp⟩) _ fun i hi => ⟨h1 i hi, (nI_flat _ i).has⟩) .nil, ?_⟩
      clear hs h1
      unfold maxLen at h2
      generalize W f = w
      refine evC_go0 (dec := []) (ks := [(0, 0), (0, 2)]) (s' := ⟨[(0, 0, Cont.cell (AV.rs 1 n false (nI w))), (0, 2, Cont.cell (AV.bool false))], 9, 10⟩) (by kernel_rfl) (by kernel_rfl) ?_
      refine evC_go (dec := []) (ks := [(0, 2)]) (ps := [List.all [decide ((↑n : Int) ≤ (8 : Int))] id = true → (∀ (i : Nat), i < n → nI w i = AV.int IntKind.i64 (iv (nI w i))) ∧ n < (2 : Nat) ^ (63 : Nat)]) (s' := ⟨[(0, 2, Cont.cell (AV.bool (bif decide ((↑n : Int) ≤ 8) then withinF 0 15 n (nI w) else false)))], 73, 10⟩) (by kernel_rfl) (by kernel_rfl) ?_ ?_
      · exact fun _ => ⟨fun _ _ => rfl, by omega⟩
      refine evC_ret ?_
      refine post_ret ?_
      refine ends_flat (vs := [AV.bool (bif decide ((↑n : Int) ≤ 8) then withinF 0 15 n (nI w) else false)]) (Nat.zero_lt_succ _) (by kernel_rfl) (flat_of _ (by kernel_rfl)) rfl ?_
      refine congrArg AV.bool ?_
      rw [cond_and, ble8, within_nI]; rfl
    · cases e
  · cases e
theorem refLine_ok : SpecOK Try.prog 22 sLine := by
  refine spec_own (by kernel_rfl) T_ok (sget_cons in_ok sget_nil) Try.func22 rfl rfl fun args hr nb out e => ?_
  unfold sLine at e
  split at e
  · rename_i v
    split at e
    · rename_i n f rd hs1
      injection e with e; subst e
      refine ⟨sl_rd hs1, false, [.rs 1 n false (nI (W f))], rfl, fun hs => ?_⟩
      obtain ⟨h1, h2⟩ := hs _ List.mem_cons_self
      refine ⟨.cons _ _ _ _ (.slice _ _ _ _ _ hs1 (fun y hy => ⟨hy, by simp⟩) _ fun i hi => ⟨h1 i hi, (nI_flat _ i).has⟩) .nil, ?_⟩
      clear hs h1
      unfold maxLen at h2
      generalize W f = w
      refine evC_go0 (dec := []) (ks := [(0, 0), (0, 2)]) (s' := ⟨[(0, 0, Cont.cell (AV.rs 1 n false (nI w))), (0, 2, Cont.cell (AV.bool false))], 9, 19⟩) (by kernel_rfl) (by kernel_rfl) ?_
      refine evC_seq ?_
      refine evC_go0 (dec := []) (ks := [(0, 0), (0, 2), (0, 3)]) (s' := ⟨[(0, 0, Cont.cell (AV.rs 1 n false (nI w))), (0, 2, Cont.cell (AV.bool false)), (0, 3, Cont.cell (AV.int IntKind.i64 0))], 17, 19⟩) (by kernel_rfl) (by kernel_rfl) ?_
      refine evC_block ?_
      refine evC_loop (ι := { i : Nat // i ≤ n ∧ ∀ j, j < i → inR 0 15 (w j) = true }) (fun y => ⟨[(0, 0, Cont.cell (AV.rs 1 n false (nI w))), (0, 2, Cont.cell (AV.bool false)), (0, 3, .cell (.int .i64 (y.1 : Nat)))], 1, 19⟩) (fun y => n - y.1) ⟨0, Nat.zero_le _, fun j hj => absurd hj (Nat.not_lt_zero j)⟩ (wk_go [] rfl (by decide) rfl rfl ⟨⟨_, rfl, rfl⟩, ⟨_, rfl, rfl⟩, ⟨_, rfl, rfl⟩, trivial⟩) ?_
      rintro ⟨i, hi, hj⟩
      refine evC_seq ?_
      refine evC_go0 (dec := []) (ks := [(0, 0), (0, 2), (0, 3), (0, 7)]) (s' := ⟨[(0, 0, Cont.cell (AV.rs 1 n false (nI w))), (0, 2, Cont.cell (AV.bool false)), (0, 3, Cont.cell (AV.int IntKind.i64 (↑i : Int))), (0, 7, Cont.cell (AV.bool (decide ((↑i : Int) < (↑n : Int)))))], 33, 19⟩) (by kernel_rfl) (by kernel_rfl) ?_
      refine evC_if (q := decide ((↑i : Int) < (↑n : Int))) (by kernel_rfl) (fun hc => ?_) (fun hc => ?_)
      · have hlt : i < n := by have := of_decide_eq_true hc; omega
        clear hc
        refine evC_skip ?_
        refine then_normal ?_
        refine evC_seq ?_
        refine evC_block ?_
        refine evC_go (dec := []) (ks := [(0, 0), (0, 2), (0, 3), (0, 15)]) (ps := [(0 : Int) ≤ (↑i : Int), (↑i : Int) < (↑n : Int), (1 : Nat) = (1 : Nat)]) (s' := ⟨[(0, 0, Cont.cell (AV.rs 1 n false (nI w))), (0, 2, Cont.cell (AV.bool false)), (0, 3, Cont.cell (AV.int IntKind.i64 (↑i : Int))), (0, 15, Cont.cell (AV.bool !inR 0 15 (w i)))], 81, 19⟩) (by kernel_rfl) (by kernel_rfl) ?_ ?_
        · (simp only [All]; (repeat' apply And.intro) <;> (try intro _) <;> (try intro _) <;> (repeat' apply And.intro) <;> (try intro _) <;> (try intro _) <;> first | trivial | assumption | exact .inr trivial | exact .inr rfl | omega | rfl | exact ⟨_, rfl, rfl⟩ | exact ⟨rfl, rfl⟩ | exact ⟨fun _ => rfl, fun _ => rfl⟩ | (unfold maxLen; omega) | (unfold i64R; first | omega | decide) | decide)
        refine evC_if (q := !inR 0 15 (w i)) (by kernel_rfl) (fun hc => ?_) (fun hc => ?_)
        · have hf : inR 0 15 (w i) = false := (Bool.not_eq_true' _).mp hc
          refine evC_go0 (dec := []) (ks := [(0, 0), (0, 2), (0, 3)]) (s' := ⟨[(0, 0, Cont.cell (AV.rs 1 n false (nI w))), (0, 2, Cont.cell (AV.bool false)), (0, 3, Cont.cell (AV.int IntKind.i64 (↑i : Int)))], 89, 19⟩) (by kernel_rfl) (by kernel_rfl) ?_
          refine evC_ret ?_
          refine block_ret ?_
          refine then_ret ?_
          refine round_ret ?_
          refine block_ret ?_
          refine then_ret ?_
          refine post_ret ?_
          refine ends_flat (vs := [AV.bool false]) (Nat.zero_lt_succ _) (by kernel_rfl) (flat_of _ (by kernel_rfl)) rfl ?_
          have e1 := all_false (p := fun i => inR 0 15 (w i)) hlt hf
          refine congrArg AV.bool ?_
          unfold lineF; rw [e1]; simp
        · have hf : inR 0 15 (w i) = true := (Bool.not_eq_false' _).mp hc
          refine evC_skip ?_
          refine block_normal ?_
          refine then_normal ?_
          refine evC_goL0 (dec := []) (ks := [(0, 0), (0, 2), (0, 3)]) (s' := ⟨[(0, 0, Cont.cell (AV.rs 1 n false (nI w))), (0, 2, Cont.cell (AV.bool false)), (0, 3, Cont.cell (AV.int IntKind.i64 (IntKind.i64.wrap ((↑i : Int) + 1))))], 105, 19⟩) (by kernel_rfl) (by kernel_rfl) ?_
          rw [wrap_add_one hlt (by omega)]
          refine round_normal (⟨i + 1, by omega, fun j hj' => ?_⟩) (wk_go [] rfl (by decide) rfl rfl ⟨⟨_, rfl, rfl⟩, ⟨_, rfl, rfl⟩, ⟨_, rfl, rfl⟩, trivial⟩) ?_
          · rcases Nat.lt_or_ge j i with h | h
            · exact hj j h
            · have : j = i := by omega
              subst this; exact hf
          · show n - (i + 1) < n - i; omega
      · have hlt : i = n := by have := of_decide_eq_false hc; omega
        subst hlt
        refine evC_exit ?_
        refine then_exit ?_
        refine round_exit ?_
        refine block_exit ?_
        refine then_normal ?_
        refine evC_go0 (dec := []) (ks := [(0, 2)]) (s' := ⟨[(0, 2, Cont.cell (AV.bool (decide ((↑i : Int) ≤ 8))))], 65, 19⟩) (by kernel_rfl) (by kernel_rfl) ?_
        refine evC_ret ?_
        refine post_ret ?_
        refine ends_flat (vs := [AV.bool (decide ((↑i : Int) ≤ 8))]) (Nat.zero_lt_succ _) (by kernel_rfl) (flat_of _ (by kernel_rfl)) rfl ?_
        have e1 := all_true (p := fun i => inR 0 15 (w i)) hj
        refine congrArg AV.bool ?_
        rw [ble8]
        unfold lineF; rw [e1]; simp
    · cases e
  · cases e

def qE (n : Nat) (w : Nat → Int) (k : Int) : Int := bif lineF n w && inR 0 15 k then (bif n == 8 then 5 else 0) else 1
def qW (n : Nat) (w : Nat → Int) (k : Int) (i : Nat) : Int := bif Nat.blt i n then w i else k
def sQueue : Spec := fun args hr nb => match args with
  | [v, .int .i64 k] => match sl 1 hr v with
    | some (n, f, rd) => some ⟨[(∀ i, i < n → f i = nI (W f) i) ∧ n ≤ maxLen], .tup [.vs nb, .int .i64 (qE n (W f) k)], rd, [(nb, 0, .vec 1 3 (bif qE n (W f) k == 0 then n + 1 else 0) (nI (qW n (W f) k)))]⟩
    | _ => none
  | _ => none
theorem queue_ok : SpecOK Try.prog 20 sQueue := by
  refine spec_own (by kernel_rfl) T_ok (sget_cons line_ok (sget_cons within_ok sget_nil)) Try.func20 rfl rfl fun args hr nb out e => ?_
  unfold sQueue at e
  split at e
  · rename_i v k
    split at e
    · rename_i n f rd hs1
      injection e with e; subst e
      refine ⟨sl_rd hs1, false, [.rs 1 n false (nI (W f)), .int .i64 k], rfl, fun hs => ?_⟩
      obtain ⟨h1, h2⟩ := hs _ List.mem_cons_self
      refine ⟨.cons _ _ _ _ (.slice _ _ _ _ _ hs1 (fun y hy => ⟨hy, by simp⟩) _ fun i hi => ⟨h1 i hi, (nI_flat _ i).has⟩) (.cons _ _ _ _ (.same _ _ (.int _ _)) .nil), ?_⟩
      clear hs h1
      generalize W f = w
      have bad : (lineF n w && inR 0 15 k) = false → qE n w k = 1 := fun h => by unfold qE; rw [h]; rfl
      refine evC_go0 (dec := []) (ks := [(0, 0), (0, 1), (0, 4), (0, 5)]) (s' := ⟨[(0, 0, Cont.cell (AV.rs 1 n false (nI w))), (0, 1, Cont.cell (AV.int IntKind.i64 k)), (0, 4, Cont.cell AV.nils), (0, 5, Cont.cell (AV.int IntKind.i64 0))], 17, 27⟩) (by kernel_rfl) (by kernel_rfl) ?_
      cases hl : lineF n w with
      | false =>
        have e1 := bad (by rw [hl]; rfl)
        refine evC_seq ?_
        refine evC_go (dec := [(4, false), (5, false), (6, false), (7, false)]) (ks := [(0, 0), (0, 1), (0, 4), (0, 5), (0, 14)]) (ps := [(∀ (i : Nat), i < n → nI w i = nI (W (nI w)) i) ∧ n ≤ maxLen, List.all [!!lineF n (W (nI w))] id = false, List.all [!!lineF n (W (nI w))] id = false, List.all [!!lineF n (W (nI w))] id = false, List.all [!!lineF n (W (nI w))] id = false, (!lineF n (W (nI w))) = true]) (s' := ⟨[(0, 0, Cont.cell (AV.rs 1 n false (nI w))), (0, 1, Cont.cell (AV.int IntKind.i64 k)), (0, 4, Cont.cell AV.nils), (0, 5, Cont.cell (AV.int IntKind.i64 0)), (0, 14, Cont.cell (AV.bool true))], 89, 27⟩) (by kernel_rfl) (by kernel_rfl) ?_ ?_
        · rw [W_nI w]; simp only [All]
          repeat' apply And.intro
          all_goals first | exact fun _ _ => rfl | exact fun _ _ => trivial | exact h2 | (rw [hl]; rfl)
        refine evC_if (q := true) (by kernel_rfl) (fun hc => ?_) (fun hc => ?_)
        · rw [e1]
          refine evC_go0 (dec := []) (ks := [(0, 0), (0, 1), (0, 4), (0, 5)]) (s' := ⟨[(0, 0, Cont.cell (AV.rs 1 n false (nI w))), (0, 1, Cont.cell (AV.int IntKind.i64 k)), (0, 4, Cont.cell AV.nils), (0, 5, Cont.cell (AV.int IntKind.i64 1))], 105, 27⟩) (by kernel_rfl) (by kernel_rfl) ?_
          refine evC_wk _ (.nil 0 4 1 3 (fun _ => .nils) (Nat.le_of_ble_eq_true rfl) rfl) ?_
          refine evC_ret ?_
          refine then_ret ?_
          refine post_ret ?_
          refine ends_go [105] (AV.tup [AV.vs 1, AV.int IntKind.i64 1]) [(1, 0, Cont.vec 1 3 0 fun x => AV.nils)] rfl (by decide) rfl rfl (has_of _ rfl) rfl ⟨⟨_, rfl, ⟨rfl, rfl, rfl, fun _ _ => rfl⟩⟩, trivial⟩ ⟨⟨1, _, rfl, rfl, rfl, ⟨rfl, rfl, rfl, fun _ hi => absurd hi (Nat.not_lt_zero _)⟩⟩, trivial⟩ (kept_nil _)
        · simp at hc
      | true =>
        have h8 : n ≤ 8 := by
          unfold lineF at hl
          simp only [Bool.and_eq_true] at hl
          exact Nat.le_of_ble_eq_true hl.1
        refine evC_seq ?_
        refine evC_go (dec := [(4, true), (5, true), (6, true), (7, true)]) (ks := [(0, 0), (0, 1), (0, 4), (0, 5), (0, 14)]) (ps := [(∀ (i : Nat), i < n → nI w i = nI (W (nI w)) i) ∧ n ≤ maxLen, List.all [!!lineF n (W (nI w))] id = true, List.all [!!lineF n (W (nI w))] id = true, List.all [!!lineF n (W (nI w))] id = true, (∀ (i : Nat), i < (1 : Nat) → pget [((0 : Nat), AV.int IntKind.i64 k)] i = AV.int IntKind.i64 (iv (pget [((0 : Nat), AV.int IntKind.i64 k)] i))) ∧ (1 : Nat) < (2 : Nat) ^ (63 : Nat), List.all [!!lineF n (W (nI w))] id = true]) (s' := ⟨[(0, 0, Cont.cell (AV.rs 1 n false (nI w))), (0, 1, Cont.cell (AV.int IntKind.i64 k)), (0, 4, Cont.cell AV.nils), (0, 5, Cont.cell (AV.int IntKind.i64 0)), (0, 14, Cont.cell (AV.bool (bif !lineF n (W (nI w)) then true else !withinF 0 15 1 (pget [(0, AV.int IntKind.i64 k)]))))], 89, 27⟩) (by kernel_rfl) (by kernel_rfl) ?_ ?_
        · rw [W_nI w]; simp only [All]
          repeat' apply And.intro
          all_goals first | exact fun _ _ => rfl | exact fun _ _ => trivial | exact h2 | (rw [hl]; rfl) | (rw [ok1]; trivial) | decide
        rw [W_nI w, hl, lit1]
        refine evC_if (q := bif !true then true else !inR 0 15 k) (by kernel_rfl) (fun hc => ?_) (fun hc => ?_)
        · have hk : inR 0 15 k = false := by simpa using hc
          have e1 := bad (by rw [hl, hk]; rfl)
          rw [e1]
          refine evC_go0 (dec := []) (ks := [(0, 0), (0, 1), (0, 4), (0, 5)]) (s' := ⟨[(0, 0, Cont.cell (AV.rs 1 n false (nI w))), (0, 1, Cont.cell (AV.int IntKind.i64 k)), (0, 4, Cont.cell AV.nils), (0, 5, Cont.cell (AV.int IntKind.i64 1))], 105, 27⟩) (by kernel_rfl) (by kernel_rfl) ?_
          refine evC_wk _ (.nil 0 4 1 3 (fun _ => .nils) (Nat.le_of_ble_eq_true rfl) rfl) ?_
          refine evC_ret ?_
          refine then_ret ?_
          refine post_ret ?_
          refine ends_go [105] (AV.tup [AV.vs 1, AV.int IntKind.i64 1]) [(1, 0, Cont.vec 1 3 0 fun x => AV.nils)] rfl (by decide) rfl rfl (has_of _ rfl) rfl ⟨⟨_, rfl, ⟨rfl, rfl, rfl, fun _ _ => rfl⟩⟩, trivial⟩ ⟨⟨1, _, rfl, rfl, rfl, ⟨rfl, rfl, rfl, fun _ hi => absurd hi (Nat.not_lt_zero _)⟩⟩, trivial⟩ (kept_nil _)
        · have hk : inR 0 15 k = true := by simpa using hc
          clear hc
          refine evC_skip ?_
          refine then_normal ?_
          refine evC_seq ?_
          refine evC_go0 (dec := []) (ks := [(0, 0), (0, 1), (0, 4), (0, 5), (0, 17)]) (s' := ⟨[(0, 0, Cont.cell (AV.rs 1 n false (nI w))), (0, 1, Cont.cell (AV.int IntKind.i64 k)), (0, 4, Cont.cell AV.nils), (0, 5, Cont.cell (AV.int IntKind.i64 0)), (0, 17, Cont.cell (AV.bool ((↑n : Int) == 8)))], 113, 27⟩) (by kernel_rfl) (by kernel_rfl) ?_
          refine evC_if (q := (↑n : Int) == 8) (by kernel_rfl) (fun hc => ?_) (fun hc => ?_)
          · have hn : n = 8 := by
              have : (n : Int) = 8 := by simpa using hc
              omega
            have e1 : qE n w k = 5 := by unfold qE; rw [hl, hk, hn]; rfl
            rw [e1]
            refine evC_go0 (dec := []) (ks := [(0, 0), (0, 1), (0, 4), (0, 5)]) (s' := ⟨[(0, 0, Cont.cell (AV.rs 1 n false (nI w))), (0, 1, Cont.cell (AV.int IntKind.i64 k)), (0, 4, Cont.cell AV.nils), (0, 5, Cont.cell (AV.int IntKind.i64 5))], 129, 27⟩) (by kernel_rfl) (by kernel_rfl) ?_
            refine evC_wk _ (.nil 0 4 1 3 (fun _ => .nils) (Nat.le_of_ble_eq_true rfl) rfl) ?_
            refine evC_ret ?_
            refine then_ret ?_
            refine post_ret ?_
            refine ends_go [129] (AV.tup [AV.vs 1, AV.int IntKind.i64 5]) [(1, 0, Cont.vec 1 3 0 fun x => AV.nils)] rfl (by decide) rfl rfl (has_of _ rfl) rfl ⟨⟨_, rfl, ⟨rfl, rfl, rfl, fun _ _ => rfl⟩⟩, trivial⟩ ⟨⟨1, _, rfl, rfl, rfl, ⟨rfl, rfl, rfl, fun _ hi => absurd hi (Nat.not_lt_zero _)⟩⟩, trivial⟩ (kept_nil _)
          · have hn : (n == 8) = false := by
              have : ¬ (n : Int) = 8 := by simpa using hc
              have : ¬ n = 8 := by omega
              simpa using this
            have e1 : qE n w k = 0 := by unfold qE; rw [hl, hk, hn]; rfl
            rw [e1]
            refine evC_skip ?_
            refine then_normal ?_
            refine evC_go (dec := []) (ks := [(0, 4), (0, 5), (177, 0)]) (ps := [(0 : Int) ≤ (0 : Int), (0 : Int) ≤ (↑n : Int), (↑n : Int) ≤ (↑n : Int), (↑n : Int) = (↑n : Int), (1 : Nat) = (1 : Nat), true = true → true = true, (0 : Nat) < (1 : Nat), (n - Int.toNat (0 : Int) + (1 : Nat)) * (8 : Nat) ≤ (140737488355328 : Nat), n - Int.toNat (0 : Int) + (1 : Nat) ≤ maxLen, (1 : Nat) = (1 : Nat), (1 : Nat) = (1 : Nat)]) (s' := ⟨[(0, 4, Cont.cell (AV.vs 177)), (0, 5, Cont.cell (AV.int IntKind.i64 0)), (177, 0, Cont.vec 1 3 (n - Int.toNat 0 + 1) (catF (n - Int.toNat 0) (fun i => nI w (Int.toNat 0 + i)) (pget [(0, AV.int IntKind.i64 k)])))], 201, 27⟩) (by kernel_rfl) (by kernel_rfl) ?_ ?_
            · (simp only [All]; (repeat' apply And.intro) <;> (try intro _) <;> (try intro _) <;> (repeat' apply And.intro) <;> (try intro _) <;> (try intro _) <;> first | trivial | assumption | exact .inr trivial | exact .inr rfl | omega | rfl | exact ⟨_, rfl, rfl⟩ | exact ⟨rfl, rfl⟩ | exact ⟨fun _ => rfl, fun _ => rfl⟩ | (unfold maxLen; omega) | (unfold i64R; first | omega | decide) | decide)
            refine evC_wk (s' := ⟨[(0, 4, Cont.cell (AV.vs 1)), (0, 5, Cont.cell (AV.int IntKind.i64 0)), (1, 0, .vec 1 3 (n + 1) (nI (qW n w k)))], 2, 27⟩) _ (wk_go [177] rfl (by decide) rfl rfl ⟨⟨_, rfl, rfl⟩, ⟨_, rfl, rfl⟩, ⟨_, rfl, ?_⟩, trivial⟩) ?_
            · refine ⟨rfl, rfl, rfl, fun j hj => ?_⟩
              unfold catF
              simp only [Int.toNat_zero, Nat.sub_zero, Nat.zero_add]
              show (bif Nat.blt j n then AV.int .i64 (w j) else pget [(0, AV.int .i64 k)] (j - n)) = AV.int .i64 (qW n w k j)
              unfold qW
              cases hb : Nat.blt j n with
              | true => rfl
              | false =>
                have : ¬ j < n := by
                  intro h
                  have : Nat.blt j n = true := by simpa [Nat.blt_eq] using h
                  rw [hb] at this; cases this
                have : j - n = 0 := by omega
                rw [this]; rfl
            refine evC_ret ?_
            refine post_ret ?_
            refine ends_go [1] (AV.tup [AV.vs 1, AV.int IntKind.i64 0]) [(1, 0, Cont.vec 1 3 (n + 1) (nI (qW n w k)))] rfl (by decide) rfl rfl (has_of _ rfl) rfl ⟨⟨_, rfl, ⟨rfl, rfl, rfl, fun _ _ => rfl⟩⟩, trivial⟩ ⟨⟨1, _, rfl, rfl, rfl, ⟨rfl, rfl, rfl, fun _ _ => ⟨has_of _ rfl, rfl⟩⟩⟩, trivial⟩ (kept_nil _)
    · cases e
  · cases e

def sE (n : Nat) (w : Nat → Int) : Int := bif lineF n w then (bif n == 0 then 6 else 0) else 1
def sShift : Spec := fun args hr nb => match args with
  | [v] => match sl 1 hr v with
    | some (n, f, rd) => some ⟨[(∀ i, i < n → f i = nI (W f) i) ∧ n ≤ maxLen], .tup [.int .i64 (bif sE n (W f) == 0 then W f 0 else 0), .vs nb, .int .i64 (sE n (W f))], rd, [(nb, 0, .vec 1 3 (bif sE n (W f) == 0 then n - 1 else 0) (nI (fun i => W f (1 + i))))]⟩
    | _ => none
  | _ => none
theorem shift_ok : SpecOK Try.prog 21 sShift := by
  refine spec_own (by kernel_rfl) T_ok (sget_cons line_ok sget_nil) Try.func21 rfl rfl fun args hr nb out e => ?_
  unfold sShift at e
  split at e
  · rename_i v
    split at e
    · rename_i n f rd hs1
      injection e with e; subst e
      refine ⟨sl_rd hs1, false, [.rs 1 n false (nI (W f))], rfl, fun hs => ?_⟩
      obtain ⟨h1, h2⟩ := hs _ List.mem_cons_self
      refine ⟨.cons _ _ _ _ (.slice _ _ _ _ _ hs1 (fun y hy => ⟨hy, by simp⟩) _ fun i hi => ⟨h1 i hi, (nI_flat _ i).has⟩) .nil, ?_⟩
      clear hs h1
      generalize W f = w
      refine evC_go0 (dec := []) (ks := [(0, 0), (0, 2), (0, 3), (0, 4)]) (s' := ⟨[(0, 0, Cont.cell (AV.rs 1 n false (nI w))), (0, 2, Cont.cell (AV.int IntKind.i64 0)), (0, 3, Cont.cell AV.nils), (0, 4, Cont.cell (AV.int IntKind.i64 0))], 25, 17⟩) (by kernel_rfl) (by kernel_rfl) ?_
      refine evC_seq ?_
      refine evC_go (dec := []) (ks := [(0, 0), (0, 2), (0, 3), (0, 4), (0, 7)]) (ps := [(∀ (i : Nat), i < n → nI w i = nI (W (nI w)) i) ∧ n ≤ maxLen]) (s' := ⟨[(0, 0, Cont.cell (AV.rs 1 n false (nI w))), (0, 2, Cont.cell (AV.int IntKind.i64 0)), (0, 3, Cont.cell AV.nils), (0, 4, Cont.cell (AV.int IntKind.i64 0)), (0, 7, Cont.cell (AV.bool !lineF n (W (nI w))))], 49, 17⟩) (by kernel_rfl) (by kernel_rfl) ?_ ?_
      · exact ⟨fun _ _ => rfl, h2⟩
      rw [W_nI w]
      refine evC_if (q := !lineF n w) (by kernel_rfl) (fun hc => ?_) (fun hc => ?_)
      · have hl : lineF n w = false := (Bool.not_eq_true' _).mp hc
        have e1 : sE n w = 1 := by unfold sE; rw [hl]; rfl
        rw [e1]
        refine evC_go0 (dec := []) (ks := [(0, 0), (0, 2), (0, 3), (0, 4)]) (s' := ⟨[(0, 0, Cont.cell (AV.rs 1 n false (nI w))), (0, 2, Cont.cell (AV.int IntKind.i64 0)), (0, 3, Cont.cell AV.nils), (0, 4, Cont.cell (AV.int IntKind.i64 1))], 73, 17⟩) (by kernel_rfl) (by kernel_rfl) ?_
        refine evC_wk _ (.nil 0 3 1 3 (fun _ => .nils) (Nat.le_of_ble_eq_true rfl) rfl) ?_
        refine evC_ret ?_
        refine then_ret ?_
        refine post_ret ?_
        refine ends_go [73] (AV.tup [AV.int IntKind.i64 0, AV.vs 1, AV.int IntKind.i64 1]) [(1, 0, Cont.vec 1 3 0 fun x => AV.nils)] rfl (by decide) rfl rfl (has_of _ rfl) rfl ⟨⟨_, rfl, ⟨rfl, rfl, rfl, fun _ _ => rfl⟩⟩, trivial⟩ ⟨⟨1, _, rfl, rfl, rfl, ⟨rfl, rfl, rfl, fun _ hi => absurd hi (Nat.not_lt_zero _)⟩⟩, trivial⟩ (kept_nil _)
      · have hl : lineF n w = true := (Bool.not_eq_false' _).mp hc
        clear hc
        refine evC_skip ?_
        refine then_normal ?_
        refine evC_seq ?_
        refine evC_go0 (dec := []) (ks := [(0, 0), (0, 2), (0, 3), (0, 4), (0, 10)]) (s' := ⟨[(0, 0, Cont.cell (AV.rs 1 n false (nI w))), (0, 2, Cont.cell (AV.int IntKind.i64 0)), (0, 3, Cont.cell AV.nils), (0, 4, Cont.cell (AV.int IntKind.i64 0)), (0, 10, Cont.cell (AV.bool ((↑n : Int) == 0)))], 73, 17⟩) (by kernel_rfl) (by kernel_rfl) ?_
        refine evC_if (q := (↑n : Int) == 0) (by kernel_rfl) (fun hc => ?_) (fun hc => ?_)
        · have hn : n = 0 := by
            have : (n : Int) = 0 := by simpa using hc
            omega
          have e1 : sE n w = 6 := by unfold sE; rw [hl, hn]; rfl
          rw [e1]
          refine evC_go0 (dec := []) (ks := [(0, 0), (0, 2), (0, 3), (0, 4)]) (s' := ⟨[(0, 0, Cont.cell (AV.rs 1 n false (nI w))), (0, 2, Cont.cell (AV.int IntKind.i64 0)), (0, 3, Cont.cell AV.nils), (0, 4, Cont.cell (AV.int IntKind.i64 6))], 97, 17⟩) (by kernel_rfl) (by kernel_rfl) ?_
          refine evC_wk _ (.nil 0 3 1 3 (fun _ => .nils) (Nat.le_of_ble_eq_true rfl) rfl) ?_
          refine evC_ret ?_
          refine then_ret ?_
          refine post_ret ?_
          refine ends_go [97] (AV.tup [AV.int IntKind.i64 0, AV.vs 1, AV.int IntKind.i64 6]) [(1, 0, Cont.vec 1 3 0 fun x => AV.nils)] rfl (by decide) rfl rfl (has_of _ rfl) rfl ⟨⟨_, rfl, ⟨rfl, rfl, rfl, fun _ _ => rfl⟩⟩, trivial⟩ ⟨⟨1, _, rfl, rfl, rfl, ⟨rfl, rfl, rfl, fun _ hi => absurd hi (Nat.not_lt_zero _)⟩⟩, trivial⟩ (kept_nil _)
        · have hn0 : ¬ n = 0 := by
            have : ¬ (n : Int) = 0 := by simpa using hc
            omega
          have hn : (n == 0) = false := by simpa using hn0
          have h8 : n ≤ 8 := by
            unfold lineF at hl
            simp only [Bool.and_eq_true] at hl
            exact Nat.le_of_ble_eq_true hl.1
          have e1 : sE n w = 0 := by unfold sE; rw [hl, hn]; rfl
          rw [e1]
          clear hc
          refine evC_skip ?_
          refine then_normal ?_
          refine evC_go (dec := []) (ks := [(0, 2), (0, 3), (0, 4), (113, 0)]) (ps := [(0 : Int) ≤ (0 : Int), (0 : Int) < (↑n : Int), (1 : Nat) = (1 : Nat), (0 : Int) ≤ (1 : Int), (1 : Int) ≤ (↑n : Int), (↑n : Int) ≤ (↑n : Int), (↑n : Int) = (↑n : Int), (1 : Nat) = (1 : Nat), false = true → false = true, (n - Int.toNat (1 : Int)) * (8 : Nat) ≤ (140737488355328 : Nat), n - Int.toNat (1 : Int) ≤ maxLen, n - Int.toNat (1 : Int) = (0 : Nat) ∨ (1 : Nat) = (1 : Nat)]) (s' := ⟨[(0, 2, Cont.cell (AV.int IntKind.i64 (w (Int.toNat 0)))), (0, 3, Cont.cell (AV.vs 113)), (0, 4, Cont.cell (AV.int IntKind.i64 0)), (113, 0, Cont.vec 1 3 (n - Int.toNat 1) fun i => nI w (Int.toNat 1 + i))], 145, 17⟩) (by kernel_rfl) (by kernel_rfl) ?_ ?_
          · (simp only [All]; (repeat' apply And.intro) <;> (try intro _) <;> (try intro _) <;> (repeat' apply And.intro) <;> (try intro _) <;> (try intro _) <;> first | trivial | assumption | exact .inr trivial | exact .inr rfl | omega | rfl | exact ⟨_, rfl, rfl⟩ | exact ⟨rfl, rfl⟩ | exact ⟨fun _ => rfl, fun _ => rfl⟩ | (unfold maxLen; omega) | (unfold i64R; first | omega | decide) | decide)
          refine evC_ret ?_
          refine post_ret ?_
          refine ends_go [113] (AV.tup [AV.int IntKind.i64 (w (Int.toNat 0)), AV.vs 1, AV.int IntKind.i64 0]) [(1, 0, Cont.vec 1 3 (n - Int.toNat 1) fun i => nI w (Int.toNat 1 + i))] rfl (by decide) rfl rfl (has_of _ rfl) rfl ⟨⟨_, rfl, ⟨rfl, rfl, rfl, fun _ _ => rfl⟩⟩, trivial⟩ ⟨⟨1, _, rfl, rfl, rfl, ⟨rfl, rfl, rfl, fun _ _ => ⟨has_of _ rfl, rfl⟩⟩⟩, trivial⟩ (kept_nil _)
    · cases e
  · cases e
end Go.Eng.S20
