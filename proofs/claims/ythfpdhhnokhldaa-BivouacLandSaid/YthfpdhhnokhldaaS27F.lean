/- Seat top, land: who may be where, walked. -/
import Derived.Test.YthfpdhhnokhldaaEngX
import Derived.Test.YthfpdhhnokhldaaS27E
set_option linter.unusedSimpArgs false
set_option linter.unusedVariables false
namespace Go.Eng.S27
open Go.Proofs Go.IntWalk
set_option maxRecDepth 10000

def depV (W H A : Int) (n : Nat) (u : Nat → Int) (i j : Int) : Int := bif cellE W H A n i j != 0 then 0 else mx2 0 (A - leastN (cellC W H A n u i j) 4)
def sDepth : Spec := fun args hr _ => match args with
  | [.agg [.int .i64 W, .int .i64 H, .int .i64 A, v], .int .i64 i, .int .i64 j] => match sl 1 hr v with
    | some (n, f, rd) => some ⟨[IsU n f], .tup [.int .i64 (depV W H A n (U f) i j), .int .i64 (cellE W H A n i j)], rd, []⟩
    | none => none
  | _ => none
theorem cellE_chk {W H A : Int} {n : Nat} {i j : Int} (h : cellE W H A n i j = 0) : chk W H A n = 0 ∧ inC W H i j = true := by
  unfold cellE at h
  cases h1 : (chk W H A n != 0) with
  | true => rw [h1] at h; cases h
  | false =>
    rw [h1] at h
    cases h2 : inC W H i j with
    | false => rw [h2] at h; cases h
    | true => exact ⟨by simpa using h1, rfl⟩
theorem depth_ok : SpecOK Try.prog 28 sDepth := by
  refine spec_own (by kernel_rfl) T_ok (sget_cons cell_ok (sget_cons least_ok sget_nil)) Try.func28 rfl rfl fun args hr nb out e => ?_
  unfold sDepth at e
  split at e
  · rename_i W H A v i j
    split at e
    · rename_i n f rd hs1
      injection e with e; subst e
      refine ⟨fun x hx => sl_rd hs1 x hx, false, [mp4 W H A n (U f), .int .i64 i, .int .i64 j], rfl, fun hs => ?_⟩
      have h1 := hs _ List.mem_cons_self
      refine ⟨map_pass hs1 (fun y hy => ⟨hy, by simp⟩) h1 (.cons _ _ _ _ (.same _ _ (.int _ _)) (.cons _ _ _ _ (.same _ _ (.int _ _)) .nil)), ?_⟩
      have hu : ∀ i, i < n → 0 ≤ U f i ∧ U f i ≤ 255 := fun i hi => (h1.get i hi).2
      clear hs h1
      generalize U f = u at hu ⊢
      have i1 : IsU n (nU u) := isU hu
      unfold depV
      unfold mp4
      refine evC_go0 (dec := []) (ks := [(0, 1), (0, 2), (0, 3), (0, 6), (0, 7), (1, 0), (1, 1), (1, 2), (1, 3), (1, 4)]) (s' := ⟨[(0, 1, Cont.cell (AV.int IntKind.i64 i)), (0, 2, Cont.cell (AV.int IntKind.i64 j)), (0, 3, Cont.cell (AV.ptr 1 0)), (0, 6, Cont.cell (AV.int IntKind.i64 0)), (0, 7, Cont.cell (AV.int IntKind.i64 0)), (1, 0, Cont.cell (AV.int IntKind.i64 W)), (1, 1, Cont.cell (AV.int IntKind.i64 H)), (1, 2, Cont.cell (AV.int IntKind.i64 A)), (1, 3, Cont.cell (AV.rs 1 n false (nU u))), (1, 4, Cont.top)], 25, 26⟩) (by kernel_rfl) (by kernel_rfl) ?_
      refine evC_go (dec := []) (ks := [(0, 3), (0, 6), (0, 7), (0, 8), (0, 9), (1, 0), (1, 1), (1, 2), (1, 3), (1, 4), (81, 0), (81, 1), (81, 2), (81, 3), (81, 4)]) (ps := [IsU n (nU u)]) (s' := ⟨[(0, 3, Cont.cell (AV.ptr 1 0)), (0, 6, Cont.cell (AV.int IntKind.i64 0)), (0, 7, Cont.cell (AV.int IntKind.i64 0)), (0, 8, Cont.cell (AV.ptr 81 0)), (0, 9, Cont.cell (AV.int IntKind.i64 (cellE W H A n i j))), (1, 0, Cont.cell (AV.int IntKind.i64 W)), (1, 1, Cont.cell (AV.int IntKind.i64 H)), (1, 2, Cont.cell (AV.int IntKind.i64 A)), (1, 3, Cont.cell (AV.rs 1 n false (nU u))), (1, 4, Cont.top), (81, 0, Cont.cell (AV.int IntKind.i64 (cellC W H A n (U (nU u)) i j 0))), (81, 1, Cont.cell (AV.int IntKind.i64 (cellC W H A n (U (nU u)) i j 1))), (81, 2, Cont.cell (AV.int IntKind.i64 (cellC W H A n (U (nU u)) i j 2))), (81, 3, Cont.cell (AV.int IntKind.i64 (cellC W H A n (U (nU u)) i j 3))), (81, 4, Cont.top)], 105, 26⟩) (by kernel_rfl) (by kernel_rfl) ?_ ?_
      · exact i1
      rw [U_nU]
      have hb := cellC_bd (W := W) (H := H) (A := A) (i := i) (j := j) hu
      generalize cellC W H A n u i j = c at hb ⊢
      refine evC_wk (s' := ⟨[(0, 3, Cont.cell (AV.ptr 1 0)), (0, 6, Cont.cell (AV.int IntKind.i64 0)), (0, 7, Cont.cell (AV.int IntKind.i64 0)), (0, 8, Cont.cell (AV.rp [AV.int IntKind.i64 (c 0), AV.int IntKind.i64 (c 1), AV.int IntKind.i64 (c 2), AV.int IntKind.i64 (c 3)])), (0, 9, Cont.cell (AV.int IntKind.i64 (cellE W H A n i j))), (1, 0, Cont.cell (AV.int IntKind.i64 W)), (1, 1, Cont.cell (AV.int IntKind.i64 H)), (1, 2, Cont.cell (AV.int IntKind.i64 A)), (1, 3, Cont.cell (AV.rs 1 n false (nU u))), (1, 4, Cont.top)], 2, 26⟩) _ (.trans (.frzP 81 [AV.int IntKind.i64 (c 0), AV.int IntKind.i64 (c 1), AV.int IntKind.i64 (c 2), AV.int IntKind.i64 (c 3)] (Nat.le_of_ble_eq_true rfl) (Nat.le_of_ble_eq_true rfl) ⟨rfl, rfl, rfl, rfl, trivial⟩) (wk_go [1] rfl (by decide) rfl rfl ⟨⟨_, rfl, rfl⟩, ⟨_, rfl, rfl⟩, ⟨_, rfl, rfl⟩, ⟨_, rfl, rfl⟩, ⟨_, rfl, rfl⟩, ⟨_, rfl, rfl⟩, ⟨_, rfl, rfl⟩, ⟨_, rfl, rfl⟩, ⟨_, rfl, rfl⟩, ⟨_, rfl, trivial⟩, trivial⟩)) ?_
      refine evC_seq ?_
      refine evC_go0 (dec := []) (ks := [(0, 3), (0, 6), (0, 7), (0, 8), (0, 9), (0, 18), (1, 0), (1, 1), (1, 2), (1, 3), (1, 4)]) (s' := ⟨[(0, 3, Cont.cell (AV.ptr 1 0)), (0, 6, Cont.cell (AV.int IntKind.i64 0)), (0, 7, Cont.cell (AV.int IntKind.i64 0)), (0, 8, Cont.cell (AV.rp [AV.int IntKind.i64 (c 0), AV.int IntKind.i64 (c 1), AV.int IntKind.i64 (c 2), AV.int IntKind.i64 (c 3)])), (0, 9, Cont.cell (AV.int IntKind.i64 (cellE W H A n i j))), (0, 18, Cont.cell (AV.bool (cellE W H A n i j != 0))), (1, 0, Cont.cell (AV.int IntKind.i64 W)), (1, 1, Cont.cell (AV.int IntKind.i64 H)), (1, 2, Cont.cell (AV.int IntKind.i64 A)), (1, 3, Cont.cell (AV.rs 1 n false (nU u))), (1, 4, Cont.top)], 18, 26⟩) (by kernel_rfl) (by kernel_rfl) ?_
      refine evC_if (q := cellE W H A n i j != 0) (by kernel_rfl) (fun hc => ?_) (fun hc => ?_)
      · rw [hc]
        refine evC_go0 (dec := []) (ks := [(0, 3), (0, 6), (0, 7), (0, 8), (1, 0), (1, 1), (1, 2), (1, 3), (1, 4)]) (s' := ⟨[(0, 3, Cont.cell (AV.ptr 1 0)), (0, 6, Cont.cell (AV.int IntKind.i64 0)), (0, 7, Cont.cell (AV.int IntKind.i64 (cellE W H A n i j))), (0, 8, Cont.cell (AV.rp [AV.int IntKind.i64 (c 0), AV.int IntKind.i64 (c 1), AV.int IntKind.i64 (c 2), AV.int IntKind.i64 (c 3)])), (1, 0, Cont.cell (AV.int IntKind.i64 W)), (1, 1, Cont.cell (AV.int IntKind.i64 H)), (1, 2, Cont.cell (AV.int IntKind.i64 A)), (1, 3, Cont.cell (AV.rs 1 n false (nU u))), (1, 4, Cont.top)], 42, 26⟩) (by kernel_rfl) (by kernel_rfl) ?_
        refine evC_ret ?_
        refine then_ret ?_
        refine post_ret ?_
        refine ends_flat (vs := [AV.int IntKind.i64 0, AV.int IntKind.i64 (cellE W H A n i j)]) (Nat.zero_lt_succ _) (by kernel_rfl) (flat_of _ (by kernel_rfl)) rfl ?_
        rfl
      · rw [hc]
        have h0 : cellE W H A n i j = 0 := by simpa using hc
        clear hc
        obtain ⟨g1, g2⟩ := chk_get (cellE_chk h0).1
        obtain ⟨r1, r2, r3, r4, r5⟩ := rightD_get g1
        have b1 := least_bd 4 (by omega) hb
        rw [h0]
        simp only [cond_false]
        refine evC_skip ?_
        refine then_normal ?_
        refine evC_go (dec := []) (ks := [(0, 6), (0, 7)]) (ps := [∀ (i : Nat), i < (4 : Nat) → List.getD [AV.int IntKind.i64 (c (0 : Nat)), AV.int IntKind.i64 (c (1 : Nat)), AV.int IntKind.i64 (c (2 : Nat)), AV.int IntKind.i64 (c (3 : Nat))] i AV.nils = nI (If fun i => List.getD [AV.int IntKind.i64 (c (0 : Nat)), AV.int IntKind.i64 (c (1 : Nat)), AV.int IntKind.i64 (c (2 : Nat)), AV.int IntKind.i64 (c (3 : Nat))] i AV.nils) i, (1 : Nat) ≤ (4 : Nat) ∧ (4 : Nat) ≤ (1000 : Nat)]) (s' := ⟨[(0, 6, Cont.cell (AV.int IntKind.i64 (mx2 0 (IntKind.i64.wrap (A - leastN (If fun i => List.getD [AV.int IntKind.i64 (c 0), AV.int IntKind.i64 (c 1), AV.int IntKind.i64 (c 2), AV.int IntKind.i64 (c 3)] i AV.nils) 4))))), (0, 7, Cont.cell (AV.int IntKind.i64 0))], 82, 26⟩) (by kernel_rfl) (by kernel_rfl) ?_ ?_
        · exact ⟨If_lit _ _ _ _, by omega, by omega⟩
        rw [leastN_lit, i64_in (A - leastN c 4) (by omega)]
        refine evC_ret ?_
        refine post_ret ?_
        refine ends_flat (vs := [AV.int IntKind.i64 (mx2 0 (A - leastN c 4)), AV.int IntKind.i64 0]) (Nat.zero_lt_succ _) (by kernel_rfl) (flat_of _ (by kernel_rfl)) rfl ?_
        rfl
    · cases e
  · cases e
def rightB (W H A : Int) (n : Nat) (k : Int) : Bool := decide (0 ≤ k) && decide (k ≤ 5) && decide (chk W H A n = 0)
def sRight : Spec := fun args hr _ => match args with
  | [.agg [.int .i64 W, .int .i64 H, .int .i64 A, v], .int .i64 k] => match sl 1 hr v with
    | some (n, f, rd) => some ⟨[IsU n f], .bool (rightB W H A n k), rd, []⟩
    | none => none
  | _ => none
theorem right_ok : SpecOK Try.prog 26 sRight := by
  refine spec_own (by kernel_rfl) T_ok (sget_cons check_ok sget_nil) Try.func26 rfl rfl fun args hr nb out e => ?_
  unfold sRight at e
  split at e
  · rename_i W H A v k
    split at e
    · rename_i n f rd hs1
      injection e with e; subst e
      refine ⟨fun x hx => sl_rd hs1 x hx, false, [mp4 W H A n (U f), .int .i64 k], rfl, fun hs => ?_⟩
      have h1 := hs _ List.mem_cons_self
      refine ⟨map_pass hs1 (fun y hy => ⟨hy, by simp⟩) h1 (.cons _ _ _ _ (.same _ _ (.int _ _)) .nil), ?_⟩
      have i1 : IsU n (nU (U f)) := isU fun i hi => (h1.get i hi).2
      clear hs h1
      generalize U f = u at i1 ⊢
      unfold mp4
      refine evC_go0 (dec := []) (ks := [(0, 1), (0, 2), (0, 4), (1, 0), (1, 1), (1, 2), (1, 3), (1, 4)]) (s' := ⟨[(0, 1, Cont.cell (AV.int IntKind.i64 k)), (0, 2, Cont.cell (AV.ptr 1 0)), (0, 4, Cont.cell (AV.bool false)), (1, 0, Cont.cell (AV.int IntKind.i64 W)), (1, 1, Cont.cell (AV.int IntKind.i64 H)), (1, 2, Cont.cell (AV.int IntKind.i64 A)), (1, 3, Cont.cell (AV.rs 1 n false (nU u))), (1, 4, Cont.top)], 17, 16⟩) (by kernel_rfl) (by kernel_rfl) ?_
      refine evC_go (dec := []) (ks := [(0, 4)]) (ps := [List.all [bif decide (k ≥ (0 : Int)) then decide (k ≤ (5 : Int)) else false] id = true → IsU n (nU u)]) (s' := ⟨[(0, 4, Cont.cell (AV.bool (bif bif decide (k ≥ 0) then decide (k ≤ 5) else false then chk W H A n == 0 else false)))], 113, 16⟩) (by kernel_rfl) (by kernel_rfl) ?_ ?_
      · exact fun _ => i1
      refine evC_ret ?_
      refine post_ret ?_
      refine ends_flat (vs := [AV.bool (bif bif decide (k ≥ 0) then decide (k ≤ 5) else false then chk W H A n == 0 else false)]) (Nat.zero_lt_succ _) (by kernel_rfl) (flat_of _ (by kernel_rfl)) rfl ?_
      refine congrArg AV.bool ?_
      simp only [cond_and, ge_iff_le]
      unfold rightB
      have : (chk W H A n == 0) = decide (chk W H A n = 0) := by
        by_cases h : chk W H A n = 0 <;> simp [h]
      rw [this]
    · cases e
  · cases e
def openB (k s d : Int) : Bool := bif k == 0 then decide (s ≤ 24) && decide (d ≤ 12) else bif k == 1 then decide (d > 0) || decide (s ≤ 16) else bif k == 2 then decide (16 ≤ d) else bif k == 3 then decide (24 ≤ d) else bif k == 4 then decide (s ≤ 20) else true
def sOpenK : Spec := fun args _ _ => match args with
  | [.int .i64 k, .int .i64 s, .int .i64 d] => some ⟨[], .bool (openB k s d), [], []⟩
  | _ => none
theorem openK_ok : SpecOK Try.prog 29 sOpenK := by
  refine spec_own (by kernel_rfl) T_ok sget_nil Try.func29 rfl rfl fun args hr nb out e => ?_
  unfold sOpenK at e
  split at e
  · rename_i k s d
    injection e with e; subst e
    refine ⟨(fun _ h => nomatch h), true, [.int .i64 k, .int .i64 s, .int .i64 d], rfl, fun hs => ⟨.cons _ _ _ _ (.same _ _ (.int _ _)) (.cons _ _ _ _ (.same _ _ (.int _ _)) (.cons _ _ _ _ (.same _ _ (.int _ _)) .nil)), ?_⟩⟩
    unfold openB
    refine evC_go0 (dec := []) (ks := [(0, 0), (0, 1), (0, 2), (0, 6)]) (s' := ⟨[(0, 0, Cont.cell (AV.int IntKind.i64 k)), (0, 1, Cont.cell (AV.int IntKind.i64 s)), (0, 2, Cont.cell (AV.int IntKind.i64 d)), (0, 6, Cont.cell (AV.bool false))], 9, 36⟩) (by kernel_rfl) (by kernel_rfl) ?_
    refine evC_seq ?_
    refine evC_go0 (dec := []) (ks := [(0, 1), (0, 2), (0, 6), (0, 7)]) (s' := ⟨[(0, 1, Cont.cell (AV.int IntKind.i64 s)), (0, 2, Cont.cell (AV.int IntKind.i64 d)), (0, 6, Cont.cell (AV.bool false)), (0, 7, Cont.cell (AV.int IntKind.i64 k))], 17, 36⟩) (by kernel_rfl) (by kernel_rfl) ?_
    refine evC_block ?_
    refine evC_go0 (dec := []) (ks := [(0, 1), (0, 2), (0, 6), (0, 7), (0, 8)]) (s' := ⟨[(0, 1, Cont.cell (AV.int IntKind.i64 s)), (0, 2, Cont.cell (AV.int IntKind.i64 d)), (0, 6, Cont.cell (AV.bool false)), (0, 7, Cont.cell (AV.int IntKind.i64 k)), (0, 8, Cont.cell (AV.bool (k == 0)))], 33, 36⟩) (by kernel_rfl) (by kernel_rfl) ?_
    refine evC_if (q := k == 0) (by kernel_rfl) (fun hc => ?_) (fun hc => ?_)
    · rw [hc]
      refine evC_go0 (dec := []) (ks := [(0, 6)]) (s' := ⟨[(0, 6, Cont.cell (AV.bool (bif decide (s ≤ 24) then decide (d ≤ 12) else false)))], 89, 36⟩) (by kernel_rfl) (by kernel_rfl) ?_
      refine evC_ret ?_
      refine block_ret ?_
      refine then_ret ?_
      refine post_ret ?_
      refine ends_flat (vs := [AV.bool (bif decide (s ≤ 24) then decide (d ≤ 12) else false)]) (Nat.zero_lt_succ _) (by kernel_rfl) (flat_of _ (by kernel_rfl)) rfl ?_
      simp only [cond_and, cond_true, oneAV]
    rw [hc]
    clear hc
    simp only [cond_false]
    refine evC_go0 (dec := []) (ks := [(0, 1), (0, 2), (0, 6), (0, 7), (0, 16)]) (s' := ⟨[(0, 1, Cont.cell (AV.int IntKind.i64 s)), (0, 2, Cont.cell (AV.int IntKind.i64 d)), (0, 6, Cont.cell (AV.bool false)), (0, 7, Cont.cell (AV.int IntKind.i64 k)), (0, 16, Cont.cell (AV.bool (k == 1)))], 49, 36⟩) (by kernel_rfl) (by kernel_rfl) ?_
    refine evC_if (q := k == 1) (by kernel_rfl) (fun hc => ?_) (fun hc => ?_)
    · rw [hc]
      refine evC_go0 (dec := []) (ks := [(0, 6)]) (s' := ⟨[(0, 6, Cont.cell (AV.bool (bif decide (d > 0) then true else decide (s ≤ 16))))], 105, 36⟩) (by kernel_rfl) (by kernel_rfl) ?_
      refine evC_ret ?_
      refine block_ret ?_
      refine then_ret ?_
      refine post_ret ?_
      refine ends_flat (vs := [AV.bool (bif decide (d > 0) then true else decide (s ≤ 16))]) (Nat.zero_lt_succ _) (by kernel_rfl) (flat_of _ (by kernel_rfl)) rfl ?_
      simp only [cond_or, cond_true, oneAV]
    rw [hc]
    clear hc
    simp only [cond_false]
    refine evC_go0 (dec := []) (ks := [(0, 1), (0, 2), (0, 6), (0, 7), (0, 24)]) (s' := ⟨[(0, 1, Cont.cell (AV.int IntKind.i64 s)), (0, 2, Cont.cell (AV.int IntKind.i64 d)), (0, 6, Cont.cell (AV.bool false)), (0, 7, Cont.cell (AV.int IntKind.i64 k)), (0, 24, Cont.cell (AV.bool (k == 2)))], 65, 36⟩) (by kernel_rfl) (by kernel_rfl) ?_
    refine evC_if (q := k == 2) (by kernel_rfl) (fun hc => ?_) (fun hc => ?_)
    · rw [hc]
      refine evC_go0 (dec := []) (ks := [(0, 6)]) (s' := ⟨[(0, 6, Cont.cell (AV.bool (decide (d ≥ 16))))], 89, 36⟩) (by kernel_rfl) (by kernel_rfl) ?_
      refine evC_ret ?_
      refine block_ret ?_
      refine then_ret ?_
      refine post_ret ?_
      refine ends_flat (vs := [AV.bool (decide (d ≥ 16))]) (Nat.zero_lt_succ _) (by kernel_rfl) (flat_of _ (by kernel_rfl)) rfl ?_
      simp only [ge_iff_le, cond_true, oneAV]
    rw [hc]
    clear hc
    simp only [cond_false]
    refine evC_go0 (dec := []) (ks := [(0, 1), (0, 2), (0, 6), (0, 7), (0, 28)]) (s' := ⟨[(0, 1, Cont.cell (AV.int IntKind.i64 s)), (0, 2, Cont.cell (AV.int IntKind.i64 d)), (0, 6, Cont.cell (AV.bool false)), (0, 7, Cont.cell (AV.int IntKind.i64 k)), (0, 28, Cont.cell (AV.bool (k == 3)))], 81, 36⟩) (by kernel_rfl) (by kernel_rfl) ?_
    refine evC_if (q := k == 3) (by kernel_rfl) (fun hc => ?_) (fun hc => ?_)
    · rw [hc]
      refine evC_go0 (dec := []) (ks := [(0, 6)]) (s' := ⟨[(0, 6, Cont.cell (AV.bool (decide (d ≥ 24))))], 105, 36⟩) (by kernel_rfl) (by kernel_rfl) ?_
      refine evC_ret ?_
      refine block_ret ?_
      refine then_ret ?_
      refine post_ret ?_
      refine ends_flat (vs := [AV.bool (decide (d ≥ 24))]) (Nat.zero_lt_succ _) (by kernel_rfl) (flat_of _ (by kernel_rfl)) rfl ?_
      simp only [ge_iff_le, cond_true, oneAV]
    rw [hc]
    clear hc
    simp only [cond_false]
    refine evC_go0 (dec := []) (ks := [(0, 1), (0, 6), (0, 32)]) (s' := ⟨[(0, 1, Cont.cell (AV.int IntKind.i64 s)), (0, 6, Cont.cell (AV.bool false)), (0, 32, Cont.cell (AV.bool (k == 4)))], 97, 36⟩) (by kernel_rfl) (by kernel_rfl) ?_
    refine evC_if (q := k == 4) (by kernel_rfl) (fun hc => ?_) (fun hc => ?_)
    · rw [hc]
      refine evC_go0 (dec := []) (ks := [(0, 6)]) (s' := ⟨[(0, 6, Cont.cell (AV.bool (decide (s ≤ 20))))], 121, 36⟩) (by kernel_rfl) (by kernel_rfl) ?_
      refine evC_ret ?_
      refine block_ret ?_
      refine then_ret ?_
      refine post_ret ?_
      refine ends_flat (vs := [AV.bool (decide (s ≤ 20))]) (Nat.zero_lt_succ _) (by kernel_rfl) (flat_of _ (by kernel_rfl)) rfl ?_
      rfl
    rw [hc]
    clear hc
    simp only [cond_false]
    refine evC_skip ?_
    refine block_normal ?_
    refine then_normal ?_
    refine evC_go0 (dec := []) (ks := [(0, 6)]) (s' := ⟨[(0, 6, Cont.cell (AV.bool true))], 105, 36⟩) (by kernel_rfl) (by kernel_rfl) ?_
    refine evC_ret ?_
    refine post_ret ?_
    refine ends_flat (vs := [AV.bool true]) (Nat.zero_lt_succ _) (by kernel_rfl) (flat_of _ (by kernel_rfl)) rfl ?_
    rfl
  · cases e
def openE (W H A : Int) (n : Nat) (k i j : Int) : Int := bif !rightB W H A n k then 1 else cellE W H A n i j
def openV (W H A : Int) (n : Nat) (u : Nat → Int) (k i j : Int) : Bool := bif !rightB W H A n k then false else bif cellE W H A n i j != 0 then false else openB k (mostN (cellC W H A n u i j) 4 - leastN (cellC W H A n u i j) 4) (depV W H A n u i j)
def sOpen : Spec := fun args hr _ => match args with
  | [.agg [.int .i64 W, .int .i64 H, .int .i64 A, v], .int .i64 k, .int .i64 i, .int .i64 j] => match sl 1 hr v with
    | some (n, f, rd) => some ⟨[IsU n f], .tup [.bool (openV W H A n (U f) k i j), .int .i64 (openE W H A n k i j)], rd, []⟩
    | none => none
  | _ => none
theorem open_ok : SpecOK Try.prog 11 sOpen := by
  refine spec_own (by kernel_rfl) T_ok (sget_cons right_ok (sget_cons slope_ok (sget_cons depth_ok (sget_cons openK_ok sget_nil)))) Try.func11 rfl rfl fun args hr nb out e => ?_
  unfold sOpen at e
  split at e
  · rename_i W H A v k i j
    split at e
    · rename_i n f rd hs1
      injection e with e; subst e
      refine ⟨fun x hx => sl_rd hs1 x hx, false, [mp4 W H A n (U f), .int .i64 k, .int .i64 i, .int .i64 j], rfl, fun hs => ?_⟩
      have h1 := hs _ List.mem_cons_self
      refine ⟨map_pass hs1 (fun y hy => ⟨hy, by simp⟩) h1 (.cons _ _ _ _ (.same _ _ (.int _ _)) (.cons _ _ _ _ (.same _ _ (.int _ _)) (.cons _ _ _ _ (.same _ _ (.int _ _)) .nil))), ?_⟩
      have i1 : IsU n (nU (U f)) := isU fun i hi => (h1.get i hi).2
      clear hs h1
      generalize U f = u at i1 ⊢
      unfold openV openE
      unfold mp4
      refine evC_go0 (dec := []) (ks := [(0, 1), (0, 2), (0, 3), (0, 4), (0, 8), (0, 9), (1, 0), (1, 1), (1, 2), (1, 3), (1, 4)]) (s' := ⟨[(0, 1, Cont.cell (AV.int IntKind.i64 k)), (0, 2, Cont.cell (AV.int IntKind.i64 i)), (0, 3, Cont.cell (AV.int IntKind.i64 j)), (0, 4, Cont.cell (AV.ptr 1 0)), (0, 8, Cont.cell (AV.bool false)), (0, 9, Cont.cell (AV.int IntKind.i64 0)), (1, 0, Cont.cell (AV.int IntKind.i64 W)), (1, 1, Cont.cell (AV.int IntKind.i64 H)), (1, 2, Cont.cell (AV.int IntKind.i64 A)), (1, 3, Cont.cell (AV.rs 1 n false (nU u))), (1, 4, Cont.top)], 25, 39⟩) (by kernel_rfl) (by kernel_rfl) ?_
      refine evC_seq ?_
      refine evC_go (dec := []) (ks := [(0, 1), (0, 2), (0, 3), (0, 4), (0, 8), (0, 9), (0, 17), (1, 0), (1, 1), (1, 2), (1, 3), (1, 4)]) (ps := [IsU n (nU u)]) (s' := ⟨[(0, 1, Cont.cell (AV.int IntKind.i64 k)), (0, 2, Cont.cell (AV.int IntKind.i64 i)), (0, 3, Cont.cell (AV.int IntKind.i64 j)), (0, 4, Cont.cell (AV.ptr 1 0)), (0, 8, Cont.cell (AV.bool false)), (0, 9, Cont.cell (AV.int IntKind.i64 0)), (0, 17, Cont.cell (AV.bool !rightB W H A n k)), (1, 0, Cont.cell (AV.int IntKind.i64 W)), (1, 1, Cont.cell (AV.int IntKind.i64 H)), (1, 2, Cont.cell (AV.int IntKind.i64 A)), (1, 3, Cont.cell (AV.rs 1 n false (nU u))), (1, 4, Cont.top)], 57, 39⟩) (by kernel_rfl) (by kernel_rfl) ?_ ?_
      · exact i1
      refine evC_if (q := !rightB W H A n k) (by kernel_rfl) (fun hc => ?_) (fun hc => ?_)
      · rw [hc]
        refine evC_go0 (dec := []) (ks := [(0, 1), (0, 2), (0, 3), (0, 4), (0, 8), (0, 9), (1, 0), (1, 1), (1, 2), (1, 3), (1, 4)]) (s' := ⟨[(0, 1, Cont.cell (AV.int IntKind.i64 k)), (0, 2, Cont.cell (AV.int IntKind.i64 i)), (0, 3, Cont.cell (AV.int IntKind.i64 j)), (0, 4, Cont.cell (AV.ptr 1 0)), (0, 8, Cont.cell (AV.bool false)), (0, 9, Cont.cell (AV.int IntKind.i64 1)), (1, 0, Cont.cell (AV.int IntKind.i64 W)), (1, 1, Cont.cell (AV.int IntKind.i64 H)), (1, 2, Cont.cell (AV.int IntKind.i64 A)), (1, 3, Cont.cell (AV.rs 1 n false (nU u))), (1, 4, Cont.top)], 73, 39⟩) (by kernel_rfl) (by kernel_rfl) ?_
        refine evC_ret ?_
        refine then_ret ?_
        refine post_ret ?_
        refine ends_flat (vs := [AV.bool false, AV.int IntKind.i64 1]) (Nat.zero_lt_succ _) (by kernel_rfl) (flat_of _ (by kernel_rfl)) rfl ?_
        rfl
      · rw [hc]
        clear hc
        simp only [cond_false]
        refine evC_skip ?_
        refine then_normal ?_
        refine evC_go (dec := []) (ks := [(0, 1), (0, 2), (0, 3), (0, 4), (0, 8), (0, 9), (0, 10), (0, 11), (1, 0), (1, 1), (1, 2), (1, 3), (1, 4)]) (ps := [IsU n (nU u)]) (s' := ⟨[(0, 1, Cont.cell (AV.int IntKind.i64 k)), (0, 2, Cont.cell (AV.int IntKind.i64 i)), (0, 3, Cont.cell (AV.int IntKind.i64 j)), (0, 4, Cont.cell (AV.ptr 1 0)), (0, 8, Cont.cell (AV.bool false)), (0, 9, Cont.cell (AV.int IntKind.i64 0)), (0, 10, Cont.cell (AV.int IntKind.i64 (mostN (cellC W H A n (U (nU u)) i j) 4 - leastN (cellC W H A n (U (nU u)) i j) 4))), (0, 11, Cont.cell (AV.int IntKind.i64 (cellE W H A n i j))), (1, 0, Cont.cell (AV.int IntKind.i64 W)), (1, 1, Cont.cell (AV.int IntKind.i64 H)), (1, 2, Cont.cell (AV.int IntKind.i64 A)), (1, 3, Cont.cell (AV.rs 1 n false (nU u))), (1, 4, Cont.top)], 129, 39⟩) (by kernel_rfl) (by kernel_rfl) ?_ ?_
        · exact i1
        rw [U_nU]
        refine evC_seq ?_
        refine evC_go0 (dec := []) (ks := [(0, 1), (0, 2), (0, 3), (0, 4), (0, 8), (0, 9), (0, 10), (0, 11), (0, 26), (1, 0), (1, 1), (1, 2), (1, 3), (1, 4)]) (s' := ⟨[(0, 1, Cont.cell (AV.int IntKind.i64 k)), (0, 2, Cont.cell (AV.int IntKind.i64 i)), (0, 3, Cont.cell (AV.int IntKind.i64 j)), (0, 4, Cont.cell (AV.ptr 1 0)), (0, 8, Cont.cell (AV.bool false)), (0, 9, Cont.cell (AV.int IntKind.i64 0)), (0, 10, Cont.cell (AV.int IntKind.i64 (mostN (cellC W H A n u i j) 4 - leastN (cellC W H A n u i j) 4))), (0, 11, Cont.cell (AV.int IntKind.i64 (cellE W H A n i j))), (0, 26, Cont.cell (AV.bool (cellE W H A n i j != 0))), (1, 0, Cont.cell (AV.int IntKind.i64 W)), (1, 1, Cont.cell (AV.int IntKind.i64 H)), (1, 2, Cont.cell (AV.int IntKind.i64 A)), (1, 3, Cont.cell (AV.rs 1 n false (nU u))), (1, 4, Cont.top)], 145, 39⟩) (by kernel_rfl) (by kernel_rfl) ?_
        refine evC_if (q := cellE W H A n i j != 0) (by kernel_rfl) (fun hc => ?_) (fun hc => ?_)
        · rw [hc]
          refine evC_go0 (dec := []) (ks := [(0, 1), (0, 2), (0, 3), (0, 4), (0, 8), (0, 9), (0, 10), (1, 0), (1, 1), (1, 2), (1, 3), (1, 4)]) (s' := ⟨[(0, 1, Cont.cell (AV.int IntKind.i64 k)), (0, 2, Cont.cell (AV.int IntKind.i64 i)), (0, 3, Cont.cell (AV.int IntKind.i64 j)), (0, 4, Cont.cell (AV.ptr 1 0)), (0, 8, Cont.cell (AV.bool false)), (0, 9, Cont.cell (AV.int IntKind.i64 (cellE W H A n i j))), (0, 10, Cont.cell (AV.int IntKind.i64 (mostN (cellC W H A n u i j) 4 - leastN (cellC W H A n u i j) 4))), (1, 0, Cont.cell (AV.int IntKind.i64 W)), (1, 1, Cont.cell (AV.int IntKind.i64 H)), (1, 2, Cont.cell (AV.int IntKind.i64 A)), (1, 3, Cont.cell (AV.rs 1 n false (nU u))), (1, 4, Cont.top)], 169, 39⟩) (by kernel_rfl) (by kernel_rfl) ?_
          refine evC_ret ?_
          refine then_ret ?_
          refine post_ret ?_
          refine ends_flat (vs := [AV.bool false, AV.int IntKind.i64 (cellE W H A n i j)]) (Nat.zero_lt_succ _) (by kernel_rfl) (flat_of _ (by kernel_rfl)) rfl ?_
          rfl
        · rw [hc]
          have h0 : cellE W H A n i j = 0 := by simpa using hc
          clear hc
          rw [h0]
          simp only [cond_false]
          refine evC_skip ?_
          refine then_normal ?_
          refine evC_go (dec := []) (ks := [(0, 1), (0, 8), (0, 9), (0, 10), (0, 12)]) (ps := [IsU n (nU u)]) (s' := ⟨[(0, 1, Cont.cell (AV.int IntKind.i64 k)), (0, 8, Cont.cell (AV.bool false)), (0, 9, Cont.cell (AV.int IntKind.i64 0)), (0, 10, Cont.cell (AV.int IntKind.i64 (mostN (cellC W H A n u i j) 4 - leastN (cellC W H A n u i j) 4))), (0, 12, Cont.cell (AV.int IntKind.i64 (depV W H A n (U (nU u)) i j)))], 217, 39⟩) (by kernel_rfl) (by kernel_rfl) ?_ ?_
          · exact i1
          rw [U_nU]
          refine evC_go0 (dec := []) (ks := [(0, 8), (0, 9)]) (s' := ⟨[(0, 8, Cont.cell (AV.bool (openB k (mostN (cellC W H A n u i j) 4 - leastN (cellC W H A n u i j) 4) (depV W H A n u i j)))), (0, 9, Cont.cell (AV.int IntKind.i64 0))], 265, 39⟩) (by kernel_rfl) (by kernel_rfl) ?_
          refine evC_ret ?_
          refine post_ret ?_
          refine ends_flat (vs := [AV.bool (openB k (mostN (cellC W H A n u i j) 4 - leastN (cellC W H A n u i j) 4) (depV W H A n u i j)), AV.int IntKind.i64 0]) (Nat.zero_lt_succ _) (by kernel_rfl) (flat_of _ (by kernel_rfl)) rfl ?_
          rfl
    · cases e
  · cases e
end Go.Eng.S27
