/- Seat 13: the law that a way goes, walked. -/
import Derived.Test.YtmlpggggahpoaaaEngX
import Derived.Test.YtmlpggggahpoaaaS13T
import Derived.Test.YtmlpggggahpoaaaS13U
import Derived.Test.YtmlpggggahpoaaaS13Y
set_option linter.unusedSimpArgs false
set_option linter.unusedVariables false
namespace Go.Eng.S13
open Go.Proofs Go.IntWalk
set_option maxRecDepth 10000

theorem err_cases {W H : Int} {g : Nat → Bool} {n : Nat} {k t m : Int} : (errW W H g n k t m ≠ 0 ∧ wayA W H g n k t m = []) ∨ (costE W H g n k t = 0 ∧ costV W H g n k t ≤ m ∧ wayA W H g n k t m = wayL W H g n k t ∧ errW W H g n k t m = 0) := by
  by_cases h : costE W H g n k t = 0
  · by_cases h2 : costV W H g n k t > m
    · have := way_far h h2
      exact .inl ⟨by rw [this.2]; decide, this.1⟩
    · have := way_fine h h2
      exact .inr ⟨h, by omega, this.1, this.2⟩
  · have := costE_bad (m := m) h
    exact .inl ⟨by rw [this.2.2]; exact h, this.2.1⟩
theorem law_goes_ok : SpecOK Try.prog 6 sLawW := by
  refine spec_own (by kernel_rfl) T_ok (sget_cons few_ok (sget_cons small_ok (sget_cons refMay_ok (sget_cons awake_ok (sget_cons whole_ok (sget_cons cost_one_ok (sget_cons rgoes_ok (sget_cons price_ok sget_nil)))))))) Try.func6 rfl rfl fun args hr nb out e => ?_
  unfold sLawW at e
  split at e
  · rename_i W H n0 b f k t m y
    injection e with e; subst e
    refine ⟨(fun _ h => nomatch h), false, [asked W H n0 (Bf f) k t m y], rfl, fun hs => ?_⟩
    obtain ⟨h1, h2⟩ := hs _ List.mem_cons_self
    have i1 : IsB n0 f := ⟨fun i _ => congrFun h1 i⟩
    refine ⟨asked_rs i1 .nil, ?_⟩
    clear hs h1 i1
    generalize Bf f = g
    unfold asked
    refine evC_go0 (dec := []) (ks := [(0, 1), (0, 2), (1, 0), (1, 1), (1, 2), (1, 3), (1, 4), (1, 5), (1, 6), (1, 7)]) (s' := ⟨[(0, 1, Cont.cell (AV.ptr 1 0)), (0, 2, Cont.cell (AV.bool false)), (1, 0, Cont.cell (AV.int IntKind.i64 W)), (1, 1, Cont.cell (AV.int IntKind.i64 H)), (1, 2, Cont.cell (AV.rs 1 n0 false (nB g))), (1, 3, Cont.cell (AV.int IntKind.i64 k)), (1, 4, Cont.cell (AV.int IntKind.i64 t)), (1, 5, Cont.cell (AV.int IntKind.i64 m)), (1, 6, Cont.cell (AV.int IntKind.i64 y)), (1, 7, Cont.top)], 17, 154⟩) (by kernel_rfl) (by kernel_rfl) ?_
    refine evC_go (dec := []) (ks := [(0, 1), (0, 2), (0, 3), (1, 0), (1, 1), (1, 2), (1, 3), (1, 4), (1, 5), (1, 6), (1, 7), (41, 0), (41, 1), (41, 2), (41, 3)]) (ps := [IsB n0 (nB g), n0 ≤ maxLen]) (s' := ⟨[(0, 1, Cont.cell (AV.ptr 1 0)), (0, 2, Cont.cell (AV.bool false)), (0, 3, Cont.cell (AV.ptr 41 0)), (1, 0, Cont.cell (AV.int IntKind.i64 W)), (1, 1, Cont.cell (AV.int IntKind.i64 H)), (1, 2, Cont.cell (AV.rs 1 n0 false (nB g))), (1, 3, Cont.cell (AV.int IntKind.i64 k)), (1, 4, Cont.cell (AV.int IntKind.i64 t)), (1, 5, Cont.cell (AV.int IntKind.i64 m)), (1, 6, Cont.cell (AV.int IntKind.i64 y)), (1, 7, Cont.top), (41, 0, Cont.cell (AV.int IntKind.i64 W)), (41, 1, Cont.cell (AV.int IntKind.i64 H)), (41, 2, Cont.cell (AV.rs 1 (cut41 n0) false (nB (Bf (nB g))))), (41, 3, Cont.top)], 57, 154⟩) (by kernel_rfl) (by kernel_rfl) ?_ ?_
    · exact ⟨isB n0 g, h2⟩
    rw [Bf_nB]
    have hn := cut41_le n0
    generalize cut41 n0 = n at hn
    have i1 := isB n g
    refine evC_seq ?_
    refine evC_go (dec := []) (ks := [(0, 1), (0, 2), (0, 3), (0, 23), (1, 0), (1, 1), (1, 2), (1, 3), (1, 4), (1, 5), (1, 6), (1, 7), (41, 0), (41, 1), (41, 2), (41, 3)]) (ps := [IsB n (nB g), List.all [!!decide (n ≤ (160 : Nat))] id = true → IsB n (nB g)]) (s' := ⟨[(0, 1, Cont.cell (AV.ptr 1 0)), (0, 2, Cont.cell (AV.bool false)), (0, 3, Cont.cell (AV.ptr 41 0)), (0, 23, Cont.cell (AV.bool (bif !decide (n ≤ 160) then true else !mayL W H n))), (1, 0, Cont.cell (AV.int IntKind.i64 W)), (1, 1, Cont.cell (AV.int IntKind.i64 H)), (1, 2, Cont.cell (AV.rs 1 n0 false (nB g))), (1, 3, Cont.cell (AV.int IntKind.i64 k)), (1, 4, Cont.cell (AV.int IntKind.i64 t)), (1, 5, Cont.cell (AV.int IntKind.i64 m)), (1, 6, Cont.cell (AV.int IntKind.i64 y)), (1, 7, Cont.top), (41, 0, Cont.cell (AV.int IntKind.i64 W)), (41, 1, Cont.cell (AV.int IntKind.i64 H)), (41, 2, Cont.cell (AV.rs 1 n false (nB g))), (41, 3, Cont.top)], 121, 154⟩) (by kernel_rfl) (by kernel_rfl) ?_ ?_
    · exact ⟨i1, fun _ => i1⟩
    refine evC_if (q := bif !decide (n ≤ 160) then true else !mayL W H n) (by kernel_rfl) (fun hc => ?_) (fun hc => ?_)
    · refine evC_go0 (dec := []) (ks := [(0, 1), (0, 2), (0, 3), (1, 0), (1, 1), (1, 2), (1, 3), (1, 4), (1, 5), (1, 6), (1, 7), (41, 0), (41, 1), (41, 2), (41, 3)]) (s' := ⟨[(0, 1, Cont.cell (AV.ptr 1 0)), (0, 2, Cont.cell (AV.bool true)), (0, 3, Cont.cell (AV.ptr 41 0)), (1, 0, Cont.cell (AV.int IntKind.i64 W)), (1, 1, Cont.cell (AV.int IntKind.i64 H)), (1, 2, Cont.cell (AV.rs 1 n0 false (nB g))), (1, 3, Cont.cell (AV.int IntKind.i64 k)), (1, 4, Cont.cell (AV.int IntKind.i64 t)), (1, 5, Cont.cell (AV.int IntKind.i64 m)), (1, 6, Cont.cell (AV.int IntKind.i64 y)), (1, 7, Cont.top), (41, 0, Cont.cell (AV.int IntKind.i64 W)), (41, 1, Cont.cell (AV.int IntKind.i64 H)), (41, 2, Cont.cell (AV.rs 1 n false (nB g))), (41, 3, Cont.top)], 137, 154⟩) (by kernel_rfl) (by kernel_rfl) ?_
      refine evC_ret ?_
      refine then_ret ?_
      refine post_ret ?_
      refine ends_flat (vs := [AV.bool true]) (Nat.zero_lt_succ _) (by kernel_rfl) (flat_of _ (by kernel_rfl)) rfl ?_
      rfl
    clear hc
    refine evC_skip ?_
    refine then_normal ?_
    refine evC_go (dec := []) (ks := [(0, 1), (0, 2), (0, 3), (0, 4), (0, 5), (1, 0), (1, 1), (1, 2), (1, 3), (1, 4), (1, 5), (1, 6), (1, 7), (41, 0), (41, 1), (41, 2), (41, 3), (177, 0)]) (ps := [IsB n (nB g)]) (s' := ⟨[(0, 1, Cont.cell (AV.ptr 1 0)), (0, 2, Cont.cell (AV.bool false)), (0, 3, Cont.cell (AV.ptr 41 0)), (0, 4, Cont.cell (AV.vs 177)), (0, 5, Cont.cell (AV.int IntKind.i64 (errW W H (Bf (nB g)) n k t m))), (1, 0, Cont.cell (AV.int IntKind.i64 W)), (1, 1, Cont.cell (AV.int IntKind.i64 H)), (1, 2, Cont.cell (AV.rs 1 n0 false (nB g))), (1, 3, Cont.cell (AV.int IntKind.i64 k)), (1, 4, Cont.cell (AV.int IntKind.i64 t)), (1, 5, Cont.cell (AV.int IntKind.i64 m)), (1, 6, Cont.cell (AV.int IntKind.i64 y)), (1, 7, Cont.top), (41, 0, Cont.cell (AV.int IntKind.i64 W)), (41, 1, Cont.cell (AV.int IntKind.i64 H)), (41, 2, Cont.cell (AV.rs 1 n false (nB g))), (41, 3, Cont.top), (177, 0, Cont.vec 1 3 (List.length (wayA W H (Bf (nB g)) n k t m)) (nL (wayA W H (Bf (nB g)) n k t m)))], 225, 154⟩) (by kernel_rfl) (by kernel_rfl) ?_ ?_
    · exact i1
    rw [Bf_nB]
    rcases err_cases (W := W) (H := H) (g := g) (n := n) (k := k) (t := t) (m := m) with ⟨q1, q2⟩ | ⟨q1, q2, q3, q4⟩
    · rw [q2]
      refine evC_seq ?_
      refine evC_go0 (dec := []) (ks := [(0, 1), (0, 2), (0, 3), (0, 4), (0, 37), (1, 0), (1, 1), (1, 2), (1, 3), (1, 4), (1, 5), (1, 6), (1, 7), (41, 0), (41, 1), (41, 2), (41, 3), (177, 0)]) (s' := ⟨[(0, 1, Cont.cell (AV.ptr 1 0)), (0, 2, Cont.cell (AV.bool false)), (0, 3, Cont.cell (AV.ptr 41 0)), (0, 4, Cont.cell (AV.vs 177)), (0, 37, Cont.cell (AV.bool (errW W H g n k t m != 0))), (1, 0, Cont.cell (AV.int IntKind.i64 W)), (1, 1, Cont.cell (AV.int IntKind.i64 H)), (1, 2, Cont.cell (AV.rs 1 n0 false (nB g))), (1, 3, Cont.cell (AV.int IntKind.i64 k)), (1, 4, Cont.cell (AV.int IntKind.i64 t)), (1, 5, Cont.cell (AV.int IntKind.i64 m)), (1, 6, Cont.cell (AV.int IntKind.i64 y)), (1, 7, Cont.top), (41, 0, Cont.cell (AV.int IntKind.i64 W)), (41, 1, Cont.cell (AV.int IntKind.i64 H)), (41, 2, Cont.cell (AV.rs 1 n false (nB g))), (41, 3, Cont.top), (177, 0, Cont.vec 1 3 0 (nL []))], 241, 154⟩) (by kernel_rfl) (by kernel_rfl) ?_
      refine evC_if (q := errW W H g n k t m != 0) (by kernel_rfl) (fun hc => ?_) (fun hc => ?_)
      · refine evC_go0 (dec := []) (ks := [(0, 1), (0, 2), (0, 3), (0, 4), (1, 0), (1, 1), (1, 2), (1, 3), (1, 4), (1, 5), (1, 6), (1, 7), (41, 0), (41, 1), (41, 2), (41, 3), (177, 0)]) (s' := ⟨[(0, 1, Cont.cell (AV.ptr 1 0)), (0, 2, Cont.cell (AV.bool true)), (0, 3, Cont.cell (AV.ptr 41 0)), (0, 4, Cont.cell (AV.vs 177)), (1, 0, Cont.cell (AV.int IntKind.i64 W)), (1, 1, Cont.cell (AV.int IntKind.i64 H)), (1, 2, Cont.cell (AV.rs 1 n0 false (nB g))), (1, 3, Cont.cell (AV.int IntKind.i64 k)), (1, 4, Cont.cell (AV.int IntKind.i64 t)), (1, 5, Cont.cell (AV.int IntKind.i64 m)), (1, 6, Cont.cell (AV.int IntKind.i64 y)), (1, 7, Cont.top), (41, 0, Cont.cell (AV.int IntKind.i64 W)), (41, 1, Cont.cell (AV.int IntKind.i64 H)), (41, 2, Cont.cell (AV.rs 1 n false (nB g))), (41, 3, Cont.top), (177, 0, Cont.vec 1 3 0 (nL []))], 297, 154⟩) (by kernel_rfl) (by kernel_rfl) ?_
        refine evC_ret ?_
        refine then_ret ?_
        refine post_ret ?_
        refine ends_flat (vs := [AV.bool true]) (Nat.zero_lt_succ _) (by kernel_rfl) (flat_of _ (by kernel_rfl)) rfl ?_
        rfl
      · exfalso
        simp [bne] at hc
        exact q1 hc
    rw [q3, q4]
    refine evC_seq ?_
    refine evC_go0 (dec := []) (ks := [(0, 1), (0, 2), (0, 3), (0, 4), (0, 37), (1, 0), (1, 1), (1, 2), (1, 3), (1, 4), (1, 5), (1, 6), (1, 7), (41, 0), (41, 1), (41, 2), (41, 3), (177, 0)]) (s' := ⟨[(0, 1, Cont.cell (AV.ptr 1 0)), (0, 2, Cont.cell (AV.bool false)), (0, 3, Cont.cell (AV.ptr 41 0)), (0, 4, Cont.cell (AV.vs 177)), (0, 37, Cont.cell (AV.bool false)), (1, 0, Cont.cell (AV.int IntKind.i64 W)), (1, 1, Cont.cell (AV.int IntKind.i64 H)), (1, 2, Cont.cell (AV.rs 1 n0 false (nB g))), (1, 3, Cont.cell (AV.int IntKind.i64 k)), (1, 4, Cont.cell (AV.int IntKind.i64 t)), (1, 5, Cont.cell (AV.int IntKind.i64 m)), (1, 6, Cont.cell (AV.int IntKind.i64 y)), (1, 7, Cont.top), (41, 0, Cont.cell (AV.int IntKind.i64 W)), (41, 1, Cont.cell (AV.int IntKind.i64 H)), (41, 2, Cont.cell (AV.rs 1 n false (nB g))), (41, 3, Cont.top), (177, 0, Cont.vec 1 3 (List.length (wayL W H g n k t)) (nL (wayL W H g n k t)))], 241, 154⟩) (by kernel_rfl) (by kernel_rfl) ?_
    refine evC_if (q := false) (by kernel_rfl) (fun hc => ?_) (fun hc => ?_)
    · cases hc
    clear hc
    refine evC_skip ?_
    refine then_normal ?_
    refine evC_go (dec := []) (ks := [(0, 1), (0, 2), (0, 3), (0, 4), (0, 6), (0, 7), (1, 0), (1, 1), (1, 2), (1, 3), (1, 4), (1, 5), (1, 6), (1, 7), (41, 0), (41, 1), (41, 2), (41, 3), (177, 0)]) (ps := [IsB n (nB g)]) (s' := ⟨[(0, 1, Cont.cell (AV.ptr 1 0)), (0, 2, Cont.cell (AV.bool false)), (0, 3, Cont.cell (AV.ptr 41 0)), (0, 4, Cont.cell (AV.vs 177)), (0, 6, Cont.cell (AV.int IntKind.i64 (costV W H (Bf (nB g)) n k t))), (0, 7, Cont.cell (AV.int IntKind.i64 (costE W H (Bf (nB g)) n k t))), (1, 0, Cont.cell (AV.int IntKind.i64 W)), (1, 1, Cont.cell (AV.int IntKind.i64 H)), (1, 2, Cont.cell (AV.rs 1 n0 false (nB g))), (1, 3, Cont.cell (AV.int IntKind.i64 k)), (1, 4, Cont.cell (AV.int IntKind.i64 t)), (1, 5, Cont.cell (AV.int IntKind.i64 m)), (1, 6, Cont.cell (AV.int IntKind.i64 y)), (1, 7, Cont.top), (41, 0, Cont.cell (AV.int IntKind.i64 W)), (41, 1, Cont.cell (AV.int IntKind.i64 H)), (41, 2, Cont.cell (AV.rs 1 n false (nB g))), (41, 3, Cont.top), (177, 0, Cont.vec 1 3 (List.length (wayL W H g n k t)) (nL (wayL W H g n k t)))], 329, 154⟩) (by kernel_rfl) (by kernel_rfl) ?_ ?_
    · exact i1
    rw [Bf_nB, q1]
    obtain ⟨hm, hk, ht, h0, hv⟩ := cost_fine q1
    rw [hv]
    rw [hv] at q2
    obtain ⟨k, rfl⟩ := Int.eq_ofNat_of_zero_le hk.1
    obtain ⟨t, rfl⟩ := Int.eq_ofNat_of_zero_le ht.1
    rw [Int.toNat_natCast] at h0 q2
    unfold wayL
    rw [Int.toNat_natCast, Int.toNat_natCast]
    have hg := costs_open h0
    have hb : ∀ q, q < n → -1 ≤ costs W H g n t q ∧ costs W H g n t q ≤ 100000 := fun q hq => costs_bd hm ht q hq
    have hw := wayR_good hm (t := t) (by omega) hg ((costs W H g n t k).toNat + 1) k [(k : Int)] (by omega) h0 (by omega) (Nat.one_pos) rfl (fun q hq => absurd hq (by show ¬ q + 1 < 1; omega))
    have hw0 := wayR_get (W := W) (H := H) (g := g) (A := costs W H g n t) (t := t) (f := (costs W H g n t k).toNat + 1) (k := k) (acc := [(k : Int)]) rfl (j := 0) Nat.one_pos
    have hself := costs_self (g := g) hm (t := t) (by omega) hg
    generalize hC : costs W H g n t = C at h0 hb hw hw0 hself q2 ⊢
    generalize hL : wayR W H g C t ((C k).toNat + 1) k [(k : Int)] = L at hw hw0 ⊢
    obtain ⟨g1, g2, g3⟩ := hw
    obtain ⟨g4, g5⟩ := hw0
    have g4' : 1 ≤ L.length := g4
    have g3' : (L.length : Int) ≤ 1 + C k := g3
    have g5' : L.getD 0 0 = (k : Int) := g5
    have hk2 := hb k (by omega)
    have e1 : IntKind.i64.wrap ((L.length : Int) - 1) = (L.length : Int) - 1 := i64_in _ (by omega)
    refine evC_seq ?_
    refine evC_go (dec := []) (ks := [(0, 2), (0, 3), (0, 4), (0, 6), (0, 84), (41, 0), (41, 1), (41, 2), (41, 3), (177, 0)]) (ps := [List.all [!bif (0 : Int) != (0 : Int) then true else decide ((↑(List.length L) : Int) < (1 : Int))] id = true → (0 : Int) ≤ (0 : Int), List.all [!bif (0 : Int) != (0 : Int) then true else decide ((↑(List.length L) : Int) < (1 : Int))] id = true → (0 : Int) < (↑(List.length L) : Int), List.all [!bif (0 : Int) != (0 : Int) then true else decide ((↑(List.length L) : Int) < (1 : Int))] id = true → (1 : Nat) = (1 : Nat), List.all [!bif (0 : Int) != (0 : Int) then true else decide ((↑(List.length L) : Int) < (1 : Int))] id = true → (0 : Int) ≤ (0 : Int), List.all [!bif (0 : Int) != (0 : Int) then true else decide ((↑(List.length L) : Int) < (1 : Int))] id = true → (0 : Int) < (↑(List.length L) : Int), List.all [!bif (0 : Int) != (0 : Int) then true else decide ((↑(List.length L) : Int) < (1 : Int))] id = true → (1 : Nat) = (1 : Nat), List.all [!bif bif (0 : Int) != (0 : Int) then true else decide ((↑(List.length L) : Int) < (1 : Int)) then true else List.getD L (Int.toNat (0 : Int)) (0 : Int) != (↑k : Int)] id = true → (0 : Int) ≤ IntKind.i64.wrap ((↑(List.length L) : Int) - (1 : Int)), List.all [!bif bif (0 : Int) != (0 : Int) then true else decide ((↑(List.length L) : Int) < (1 : Int)) then true else List.getD L (Int.toNat (0 : Int)) (0 : Int) != (↑k : Int)] id = true → IntKind.i64.wrap ((↑(List.length L) : Int) - (1 : Int)) < (↑(List.length L) : Int), List.all [!bif bif (0 : Int) != (0 : Int) then true else decide ((↑(List.length L) : Int) < (1 : Int)) then true else List.getD L (Int.toNat (0 : Int)) (0 : Int) != (↑k : Int)] id = true → (1 : Nat) = (1 : Nat), List.all [!bif bif (0 : Int) != (0 : Int) then true else decide ((↑(List.length L) : Int) < (1 : Int)) then true else List.getD L (Int.toNat (0 : Int)) (0 : Int) != (↑k : Int)] id = true → (0 : Int) ≤ IntKind.i64.wrap ((↑(List.length L) : Int) - (1 : Int)), List.all [!bif bif (0 : Int) != (0 : Int) then true else decide ((↑(List.length L) : Int) < (1 : Int)) then true else List.getD L (Int.toNat (0 : Int)) (0 : Int) != (↑k : Int)] id = true → IntKind.i64.wrap ((↑(List.length L) : Int) - (1 : Int)) < (↑(List.length L) : Int), List.all [!bif bif (0 : Int) != (0 : Int) then true else decide ((↑(List.length L) : Int) < (1 : Int)) then true else List.getD L (Int.toNat (0 : Int)) (0 : Int) != (↑k : Int)] id = true → (1 : Nat) = (1 : Nat)]) (s' := ⟨[(0, 2, Cont.cell (AV.bool false)), (0, 3, Cont.cell (AV.ptr 41 0)), (0, 4, Cont.cell (AV.vs 177)), (0, 6, Cont.cell (AV.int IntKind.i64 (C k))), (0, 84, Cont.cell (AV.bool (bif bif bif bif 0 != 0 then true else decide ((↑(List.length L) : Int) < 1) then true else List.getD L (Int.toNat 0) 0 != (↑k : Int) then true else List.getD L (Int.toNat (IntKind.i64.wrap ((↑(List.length L) : Int) - 1))) 0 != (↑t : Int) then true else decide (C k > m)))), (41, 0, Cont.cell (AV.int IntKind.i64 W)), (41, 1, Cont.cell (AV.int IntKind.i64 H)), (41, 2, Cont.cell (AV.rs 1 n false (nB g))), (41, 3, Cont.top), (177, 0, Cont.vec 1 3 (List.length L) (nL L))], 585, 154⟩) (by kernel_rfl) (by kernel_rfl) ?_ ?_
    · (simp only [All]; (repeat' apply And.intro) <;> (try intro _) <;> (try intro _) <;> (repeat' apply And.intro) <;> (try intro _) <;> (try intro _) <;> first | trivial | assumption | exact .inr trivial | exact .inr rfl | omega | rfl | exact ⟨_, rfl, rfl⟩ | exact ⟨rfl, rfl⟩ | exact ⟨fun _ => rfl, fun _ => rfl⟩ | (unfold maxLen; omega) | (unfold i64R; first | omega | decide) | decide)
    have hf : (bif bif bif bif 0 != 0 then true else decide ((L.length : Int) < 1) then true else L.getD (Int.toNat 0) 0 != (k : Int) then true else L.getD (Int.toNat (IntKind.i64.wrap ((L.length : Int) - 1))) 0 != (t : Int) then true else decide (C k > m)) = false := by
      have e2 : ((L.length : Int) - 1).toNat = L.length - 1 := by omega
      rw [e1, e2, g2, show Int.toNat 0 = 0 from rfl, g5', decide_eq_false (by omega : ¬ (L.length : Int) < 1), decide_eq_false (by omega : ¬ C k > m)]
      simp
    refine evC_if (q := bif bif bif bif 0 != 0 then true else decide ((↑(List.length L) : Int) < 1) then true else List.getD L (Int.toNat 0) 0 != (↑k : Int) then true else List.getD L (Int.toNat (IntKind.i64.wrap ((↑(List.length L) : Int) - 1))) 0 != (↑t : Int) then true else decide (C k > m)) (by kernel_rfl) (fun hc => ?_) (fun hc => ?_)
    · rw [hf] at hc; cases hc
    clear hc hf
    refine evC_skip ?_
    refine then_normal ?_
    refine evC_go0 (dec := []) (ks := [(0, 2), (0, 3), (0, 4), (0, 6), (0, 8), (41, 0), (41, 1), (41, 2), (41, 3), (177, 0)]) (s' := ⟨[(0, 2, Cont.cell (AV.bool false)), (0, 3, Cont.cell (AV.ptr 41 0)), (0, 4, Cont.cell (AV.vs 177)), (0, 6, Cont.cell (AV.int IntKind.i64 (C k))), (0, 8, Cont.cell (AV.int IntKind.i64 0)), (41, 0, Cont.cell (AV.int IntKind.i64 W)), (41, 1, Cont.cell (AV.int IntKind.i64 H)), (41, 2, Cont.cell (AV.rs 1 n false (nB g))), (41, 3, Cont.top), (177, 0, Cont.vec 1 3 (List.length L) (nL L))], 593, 154⟩) (by kernel_rfl) (by kernel_rfl) ?_
    refine evC_seq ?_
    refine evC_go0 (dec := []) (ks := [(0, 2), (0, 3), (0, 4), (0, 6), (0, 8), (0, 9), (41, 0), (41, 1), (41, 2), (41, 3), (177, 0)]) (s' := ⟨[(0, 2, Cont.cell (AV.bool false)), (0, 3, Cont.cell (AV.ptr 41 0)), (0, 4, Cont.cell (AV.vs 177)), (0, 6, Cont.cell (AV.int IntKind.i64 (C k))), (0, 8, Cont.cell (AV.int IntKind.i64 0)), (0, 9, Cont.cell (AV.int IntKind.i64 1)), (41, 0, Cont.cell (AV.int IntKind.i64 W)), (41, 1, Cont.cell (AV.int IntKind.i64 H)), (41, 2, Cont.cell (AV.rs 1 n false (nB g))), (41, 3, Cont.top), (177, 0, Cont.vec 1 3 (List.length L) (nL L))], 601, 154⟩) (by kernel_rfl) (by kernel_rfl) ?_
    refine evC_block ?_
    refine evC_loop (ι := { q : Nat // 1 ≤ q ∧ q ≤ L.length }) (fun x => ⟨[(0, 2, Cont.cell (AV.bool false)), (0, 3, Cont.cell (AV.ptr 1 0)), (0, 4, Cont.cell (AV.vs 2)), (0, 6, Cont.cell (AV.int IntKind.i64 (C k))), (0, 8, .cell (.int .i64 (C k - C (L.getD (x.1 - 1) 0).toNat))), (0, 9, .cell (.int .i64 (x.1 : Nat))), (1, 0, Cont.cell (AV.int IntKind.i64 W)), (1, 1, Cont.cell (AV.int IntKind.i64 H)), (1, 2, Cont.cell (AV.rs 1 n false (nB g))), (1, 3, Cont.top), (2, 0, Cont.vec 1 3 (List.length L) (nL L))], 3, 154⟩) (fun x => L.length - x.1) ⟨1, Nat.le_refl _, g4'⟩ (wk_go [41, 177] rfl (by decide) rfl rfl ⟨⟨_, rfl, rfl⟩, ⟨_, rfl, rfl⟩, ⟨_, rfl, rfl⟩, ⟨_, rfl, rfl⟩, ⟨_, rfl, ?_⟩, ⟨_, rfl, rfl⟩, ⟨_, rfl, rfl⟩, ⟨_, rfl, rfl⟩, ⟨_, rfl, rfl⟩, ⟨_, rfl, trivial⟩, ⟨_, rfl, rfl, rfl, rfl, fun _ _ => rfl⟩, trivial⟩) ?_
    · show AV.int .i64 0 = AV.int .i64 (C k - C (L.getD 0 0).toNat)
      rw [g5', Int.toNat_natCast]
      congr 1
      omega
    rintro ⟨q, j1, j2⟩
    simp only
    refine evC_seq ?_
    refine evC_go0 (dec := []) (ks := [(0, 2), (0, 3), (0, 4), (0, 6), (0, 8), (0, 9), (0, 88), (1, 0), (1, 1), (1, 2), (1, 3), (2, 0)]) (s' := ⟨[(0, 2, Cont.cell (AV.bool false)), (0, 3, Cont.cell (AV.ptr 1 0)), (0, 4, Cont.cell (AV.vs 2)), (0, 6, Cont.cell (AV.int IntKind.i64 (C k))), (0, 8, Cont.cell (AV.int IntKind.i64 (C k - C (Int.toNat (List.getD L (q - 1) 0))))), (0, 9, Cont.cell (AV.int IntKind.i64 (↑q : Int))), (0, 88, Cont.cell (AV.bool (decide ((↑q : Int) < (↑(List.length L) : Int))))), (1, 0, Cont.cell (AV.int IntKind.i64 W)), (1, 1, Cont.cell (AV.int IntKind.i64 H)), (1, 2, Cont.cell (AV.rs 1 n false (nB g))), (1, 3, Cont.top), (2, 0, Cont.vec 1 3 (List.length L) (nL L))], 35, 154⟩) (by kernel_rfl) (by kernel_rfl) ?_
    refine evC_if (q := decide ((↑q : Int) < (↑(List.length L) : Int))) (by kernel_rfl) (fun hc => ?_) (fun hc => ?_)
    · have hlt : q < L.length := by have := of_decide_eq_true hc; omega
      clear hc
      obtain ⟨c, q', s0, a1, a2, a3, a4, a5, a6, a7, a8⟩ := g1 (q - 1) (by omega)
      rw [show q - 1 + 1 = q by omega] at a2
      rw [a1, Int.toNat_natCast]
      have hbc := hb c a3
      have hbq := hb q' a4
      have hpr := prc_rng s0
      have w1 : IntKind.i64.wrap ((q : Int) - 1) = ((q - 1 : Nat) : Int) := by rw [i64_in _ (by omega)]; omega
      refine evC_skip ?_
      refine then_normal ?_
      refine evC_seq ?_
      refine evC_block ?_
      refine evC_go0 (dec := []) (ks := [(0, 2), (0, 3), (0, 4), (0, 6), (0, 8), (0, 9), (0, 10), (1, 0), (1, 1), (1, 2), (1, 3), (2, 0)]) (s' := ⟨[(0, 2, Cont.cell (AV.bool false)), (0, 3, Cont.cell (AV.ptr 1 0)), (0, 4, Cont.cell (AV.vs 2)), (0, 6, Cont.cell (AV.int IntKind.i64 (C k))), (0, 8, Cont.cell (AV.int IntKind.i64 (C k - C c))), (0, 9, Cont.cell (AV.int IntKind.i64 (↑q : Int))), (0, 10, Cont.cell (AV.int IntKind.i64 (-1))), (1, 0, Cont.cell (AV.int IntKind.i64 W)), (1, 1, Cont.cell (AV.int IntKind.i64 H)), (1, 2, Cont.cell (AV.rs 1 n false (nB g))), (1, 3, Cont.top), (2, 0, Cont.vec 1 3 (List.length L) (nL L))], 43, 154⟩) (by kernel_rfl) (by kernel_rfl) ?_
      refine evC_seq ?_
      refine evC_go0 (dec := []) (ks := [(0, 2), (0, 3), (0, 4), (0, 6), (0, 8), (0, 9), (0, 10), (0, 11), (1, 0), (1, 1), (1, 2), (1, 3), (2, 0)]) (s' := ⟨[(0, 2, Cont.cell (AV.bool false)), (0, 3, Cont.cell (AV.ptr 1 0)), (0, 4, Cont.cell (AV.vs 2)), (0, 6, Cont.cell (AV.int IntKind.i64 (C k))), (0, 8, Cont.cell (AV.int IntKind.i64 (C k - C c))), (0, 9, Cont.cell (AV.int IntKind.i64 (↑q : Int))), (0, 10, Cont.cell (AV.int IntKind.i64 (-1))), (0, 11, Cont.cell (AV.int IntKind.i64 0)), (1, 0, Cont.cell (AV.int IntKind.i64 W)), (1, 1, Cont.cell (AV.int IntKind.i64 H)), (1, 2, Cont.cell (AV.rs 1 n false (nB g))), (1, 3, Cont.top), (2, 0, Cont.vec 1 3 (List.length L) (nL L))], 51, 154⟩) (by kernel_rfl) (by kernel_rfl) ?_
      refine evC_block ?_
      refine evC_loop (ι := { s : Nat // s ≤ 8 }) (fun x => ⟨[(0, 2, Cont.cell (AV.bool false)), (0, 3, Cont.cell (AV.ptr 1 0)), (0, 4, Cont.cell (AV.vs 2)), (0, 6, Cont.cell (AV.int IntKind.i64 (C k))), (0, 8, Cont.cell (AV.int IntKind.i64 (C k - C c))), (0, 9, Cont.cell (AV.int IntKind.i64 (↑q : Int))), (0, 10, .cell (.int .i64 (bif Nat.blt s0 x.1 then prc s0 else -1))), (0, 11, .cell (.int .i64 (x.1 : Nat))), (1, 0, Cont.cell (AV.int IntKind.i64 W)), (1, 1, Cont.cell (AV.int IntKind.i64 H)), (1, 2, Cont.cell (AV.rs 1 n false (nB g))), (1, 3, Cont.top), (2, 0, Cont.vec 1 3 (List.length L) (nL L))], 3, 154⟩) (fun x => 8 - x.1) ⟨0, Nat.zero_le _⟩ (wk_go [1, 2] rfl (by decide) rfl rfl ⟨⟨_, rfl, rfl⟩, ⟨_, rfl, rfl⟩, ⟨_, rfl, rfl⟩, ⟨_, rfl, rfl⟩, ⟨_, rfl, rfl⟩, ⟨_, rfl, rfl⟩, ⟨_, rfl, rfl⟩, ⟨_, rfl, rfl⟩, ⟨_, rfl, rfl⟩, ⟨_, rfl, rfl⟩, ⟨_, rfl, rfl⟩, ⟨_, rfl, trivial⟩, ⟨_, rfl, rfl, rfl, rfl, fun _ _ => rfl⟩, trivial⟩) ?_
      rintro ⟨s, hs⟩
      simp only
      refine evC_seq ?_
      refine evC_go0 (dec := []) (ks := [(0, 2), (0, 3), (0, 4), (0, 6), (0, 8), (0, 9), (0, 10), (0, 11), (0, 92), (1, 0), (1, 1), (1, 2), (1, 3), (2, 0)]) (s' := ⟨[(0, 2, Cont.cell (AV.bool false)), (0, 3, Cont.cell (AV.ptr 1 0)), (0, 4, Cont.cell (AV.vs 2)), (0, 6, Cont.cell (AV.int IntKind.i64 (C k))), (0, 8, Cont.cell (AV.int IntKind.i64 (C k - C c))), (0, 9, Cont.cell (AV.int IntKind.i64 (↑q : Int))), (0, 10, Cont.cell (AV.int IntKind.i64 (bif Nat.blt s0 s then prc s0 else -1))), (0, 11, Cont.cell (AV.int IntKind.i64 (↑s : Int))), (0, 92, Cont.cell (AV.bool (decide ((↑s : Int) < 8)))), (1, 0, Cont.cell (AV.int IntKind.i64 W)), (1, 1, Cont.cell (AV.int IntKind.i64 H)), (1, 2, Cont.cell (AV.rs 1 n false (nB g))), (1, 3, Cont.top), (2, 0, Cont.vec 1 3 (List.length L) (nL L))], 19, 154⟩) (by kernel_rfl) (by kernel_rfl) ?_
      refine evC_if (q := decide ((↑s : Int) < 8)) (by kernel_rfl) (fun hc => ?_) (fun hc => ?_)
      · have hs8 : s < 8 := by have := of_decide_eq_true hc; omega
        clear hc
        refine evC_skip ?_
        refine then_normal ?_
        refine evC_seq ?_
        refine evC_block ?_
        refine evC_go (dec := []) (ks := [(0, 2), (0, 3), (0, 4), (0, 6), (0, 8), (0, 9), (0, 10), (0, 11), (0, 126), (1, 0), (1, 1), (1, 2), (1, 3), (2, 0)]) (ps := [(0 : Int) ≤ IntKind.i64.wrap ((↑q : Int) - (1 : Int)), IntKind.i64.wrap ((↑q : Int) - (1 : Int)) < (↑(List.length L) : Int), (1 : Nat) = (1 : Nat), (0 : Int) ≤ IntKind.i64.wrap ((↑q : Int) - (1 : Int)), IntKind.i64.wrap ((↑q : Int) - (1 : Int)) < (↑(List.length L) : Int), (1 : Nat) = (1 : Nat), List.all [decide (List.getD L (Int.toNat (IntKind.i64.wrap ((↑q : Int) - (1 : Int)))) (0 : Int) ≥ (0 : Int))] id = true → (0 : Int) ≤ IntKind.i64.wrap ((↑q : Int) - (1 : Int)), List.all [decide (List.getD L (Int.toNat (IntKind.i64.wrap ((↑q : Int) - (1 : Int)))) (0 : Int) ≥ (0 : Int))] id = true → IntKind.i64.wrap ((↑q : Int) - (1 : Int)) < (↑(List.length L) : Int), List.all [decide (List.getD L (Int.toNat (IntKind.i64.wrap ((↑q : Int) - (1 : Int)))) (0 : Int) ≥ (0 : Int))] id = true → (1 : Nat) = (1 : Nat), List.all [decide (List.getD L (Int.toNat (IntKind.i64.wrap ((↑q : Int) - (1 : Int)))) (0 : Int) ≥ (0 : Int))] id = true → (0 : Int) ≤ IntKind.i64.wrap ((↑q : Int) - (1 : Int)), List.all [decide (List.getD L (Int.toNat (IntKind.i64.wrap ((↑q : Int) - (1 : Int)))) (0 : Int) ≥ (0 : Int))] id = true → IntKind.i64.wrap ((↑q : Int) - (1 : Int)) < (↑(List.length L) : Int), List.all [decide (List.getD L (Int.toNat (IntKind.i64.wrap ((↑q : Int) - (1 : Int)))) (0 : Int) ≥ (0 : Int))] id = true → (1 : Nat) = (1 : Nat), List.all [bif decide (List.getD L (Int.toNat (IntKind.i64.wrap ((↑q : Int) - (1 : Int)))) (0 : Int) ≥ (0 : Int)) then decide (List.getD L (Int.toNat (IntKind.i64.wrap ((↑q : Int) - (1 : Int)))) (0 : Int) < (↑n : Int)) else false] id = true → (0 : Int) ≤ IntKind.i64.wrap ((↑q : Int) - (1 : Int)), List.all [bif decide (List.getD L (Int.toNat (IntKind.i64.wrap ((↑q : Int) - (1 : Int)))) (0 : Int) ≥ (0 : Int)) then decide (List.getD L (Int.toNat (IntKind.i64.wrap ((↑q : Int) - (1 : Int)))) (0 : Int) < (↑n : Int)) else false] id = true → IntKind.i64.wrap ((↑q : Int) - (1 : Int)) < (↑(List.length L) : Int), List.all [bif decide (List.getD L (Int.toNat (IntKind.i64.wrap ((↑q : Int) - (1 : Int)))) (0 : Int) ≥ (0 : Int)) then decide (List.getD L (Int.toNat (IntKind.i64.wrap ((↑q : Int) - (1 : Int)))) (0 : Int) < (↑n : Int)) else false] id = true → (1 : Nat) = (1 : Nat), List.all [bif decide (List.getD L (Int.toNat (IntKind.i64.wrap ((↑q : Int) - (1 : Int)))) (0 : Int) ≥ (0 : Int)) then decide (List.getD L (Int.toNat (IntKind.i64.wrap ((↑q : Int) - (1 : Int)))) (0 : Int) < (↑n : Int)) else false] id = true → (0 : Int) ≤ IntKind.i64.wrap ((↑q : Int) - (1 : Int)), List.all [bif decide (List.getD L (Int.toNat (IntKind.i64.wrap ((↑q : Int) - (1 : Int)))) (0 : Int) ≥ (0 : Int)) then decide (List.getD L (Int.toNat (IntKind.i64.wrap ((↑q : Int) - (1 : Int)))) (0 : Int) < (↑n : Int)) else false] id = true → IntKind.i64.wrap ((↑q : Int) - (1 : Int)) < (↑(List.length L) : Int), List.all [bif decide (List.getD L (Int.toNat (IntKind.i64.wrap ((↑q : Int) - (1 : Int)))) (0 : Int) ≥ (0 : Int)) then decide (List.getD L (Int.toNat (IntKind.i64.wrap ((↑q : Int) - (1 : Int)))) (0 : Int) < (↑n : Int)) else false] id = true → (1 : Nat) = (1 : Nat), List.all [bif decide (List.getD L (Int.toNat (IntKind.i64.wrap ((↑q : Int) - (1 : Int)))) (0 : Int) ≥ (0 : Int)) then decide (List.getD L (Int.toNat (IntKind.i64.wrap ((↑q : Int) - (1 : Int)))) (0 : Int) < (↑n : Int)) else false] id = true → IsB n (nB g), List.all [bif decide (List.getD L (Int.toNat (IntKind.i64.wrap ((↑q : Int) - (1 : Int)))) (0 : Int) ≥ (0 : Int)) then decide (List.getD L (Int.toNat (IntKind.i64.wrap ((↑q : Int) - (1 : Int)))) (0 : Int) < (↑n : Int)) else false] id = true → mayL W H n = true, List.all [bif decide (List.getD L (Int.toNat (IntKind.i64.wrap ((↑q : Int) - (1 : Int)))) (0 : Int) ≥ (0 : Int)) then decide (List.getD L (Int.toNat (IntKind.i64.wrap ((↑q : Int) - (1 : Int)))) (0 : Int) < (↑n : Int)) else false] id = true → ((0 : Int) ≤ List.getD L (Int.toNat (IntKind.i64.wrap ((↑q : Int) - (1 : Int)))) (0 : Int) ∧ List.getD L (Int.toNat (IntKind.i64.wrap ((↑q : Int) - (1 : Int)))) (0 : Int) < (↑n : Int)) ∧ (0 : Int) ≤ (↑s : Int) ∧ (↑s : Int) < (8 : Int), List.all [bif decide (List.getD L (Int.toNat (IntKind.i64.wrap ((↑q : Int) - (1 : Int)))) (0 : Int) ≥ (0 : Int)) then decide (List.getD L (Int.toNat (IntKind.i64.wrap ((↑q : Int) - (1 : Int)))) (0 : Int) < (↑n : Int)) else false] id = true → (0 : Int) ≤ (↑q : Int), List.all [bif decide (List.getD L (Int.toNat (IntKind.i64.wrap ((↑q : Int) - (1 : Int)))) (0 : Int) ≥ (0 : Int)) then decide (List.getD L (Int.toNat (IntKind.i64.wrap ((↑q : Int) - (1 : Int)))) (0 : Int) < (↑n : Int)) else false] id = true → (↑q : Int) < (↑(List.length L) : Int), List.all [bif decide (List.getD L (Int.toNat (IntKind.i64.wrap ((↑q : Int) - (1 : Int)))) (0 : Int) ≥ (0 : Int)) then decide (List.getD L (Int.toNat (IntKind.i64.wrap ((↑q : Int) - (1 : Int)))) (0 : Int) < (↑n : Int)) else false] id = true → (1 : Nat) = (1 : Nat), List.all [bif decide (List.getD L (Int.toNat (IntKind.i64.wrap ((↑q : Int) - (1 : Int)))) (0 : Int) ≥ (0 : Int)) then decide (List.getD L (Int.toNat (IntKind.i64.wrap ((↑q : Int) - (1 : Int)))) (0 : Int) < (↑n : Int)) else false] id = true → (0 : Int) ≤ (↑q : Int), List.all [bif decide (List.getD L (Int.toNat (IntKind.i64.wrap ((↑q : Int) - (1 : Int)))) (0 : Int) ≥ (0 : Int)) then decide (List.getD L (Int.toNat (IntKind.i64.wrap ((↑q : Int) - (1 : Int)))) (0 : Int) < (↑n : Int)) else false] id = true → (↑q : Int) < (↑(List.length L) : Int), List.all [bif decide (List.getD L (Int.toNat (IntKind.i64.wrap ((↑q : Int) - (1 : Int)))) (0 : Int) ≥ (0 : Int)) then decide (List.getD L (Int.toNat (IntKind.i64.wrap ((↑q : Int) - (1 : Int)))) (0 : Int) < (↑n : Int)) else false] id = true → (1 : Nat) = (1 : Nat)]) (s' := ⟨[(0, 2, Cont.cell (AV.bool false)), (0, 3, Cont.cell (AV.ptr 1 0)), (0, 4, Cont.cell (AV.vs 2)), (0, 6, Cont.cell (AV.int IntKind.i64 (C k))), (0, 8, Cont.cell (AV.int IntKind.i64 (C k - C c))), (0, 9, Cont.cell (AV.int IntKind.i64 (↑q : Int))), (0, 10, Cont.cell (AV.int IntKind.i64 (bif Nat.blt s0 s then prc s0 else -1))), (0, 11, Cont.cell (AV.int IntKind.i64 (↑s : Int))), (0, 126, Cont.cell (AV.bool (bif bif decide (List.getD L (Int.toNat (IntKind.i64.wrap ((↑q : Int) - 1))) 0 ≥ 0) then decide (List.getD L (Int.toNat (IntKind.i64.wrap ((↑q : Int) - 1))) 0 < (↑n : Int)) else false then goR W H (Bf (nB g)) (List.getD L (Int.toNat (IntKind.i64.wrap ((↑q : Int) - 1))) 0) s == List.getD L q 0 else false))), (1, 0, Cont.cell (AV.int IntKind.i64 W)), (1, 1, Cont.cell (AV.int IntKind.i64 H)), (1, 2, Cont.cell (AV.rs 1 n false (nB g))), (1, 3, Cont.top), (2, 0, Cont.vec 1 3 (List.length L) (nL L))], 275, 154⟩) (by kernel_rfl) (by kernel_rfl) ?_ ?_
        · rw [w1, Int.toNat_natCast, a1]
          simp only [All]
          repeat' apply And.intro
          all_goals (first | trivial | omega | (intro _; first | exact i1 | exact hm | trivial | omega | exact ⟨⟨by omega, by omega⟩, by omega, by omega⟩))
        rw [w1, Int.toNat_natCast, a1, a2]
        rw [Bf_nB]
        have hcond : (bif bif decide ((c : Int) ≥ 0) then decide ((c : Int) < (n : Int)) else false then goR W H g c s == (q' : Int) else false) = (s == s0) := by
          rw [decide_eq_true (by omega : (c : Int) ≥ 0), decide_eq_true (by omega : (c : Int) < (n : Int))]
          show (goR W H g c s == (q' : Int)) = (s == s0)
          by_cases e : s = s0
          · subst e
            rw [a6]; simp
          · have h1 : (s == s0) = false := by simpa using e
            rw [h1]
            have : goR W H g c s ≠ (q' : Int) := fun h => e (goR_inj hm ⟨by omega, by omega⟩ a5 hs8 a7 h).symm
            simpa using this
        rw [hcond]
        clear hcond
        refine evC_if (q := s == s0) (by kernel_rfl) (fun hc => ?_) (fun hc => ?_)
        · have hss : s = s0 := by simpa using hc
          clear hc
          subst hss
          refine evC_goL (dec := []) (ks := [(0, 2), (0, 3), (0, 4), (0, 6), (0, 8), (0, 9), (0, 10), (0, 11), (1, 0), (1, 1), (1, 2), (1, 3), (2, 0)]) (ps := [(0 : Int) ≤ (↑s : Int) ∧ (↑s : Int) < (8 : Int)]) (s' := ⟨[(0, 2, Cont.cell (AV.bool false)), (0, 3, Cont.cell (AV.ptr 1 0)), (0, 4, Cont.cell (AV.vs 2)), (0, 6, Cont.cell (AV.int IntKind.i64 (C k))), (0, 8, Cont.cell (AV.int IntKind.i64 (C k - C c))), (0, 9, Cont.cell (AV.int IntKind.i64 (↑q : Int))), (0, 10, Cont.cell (AV.int IntKind.i64 (prc s))), (0, 11, Cont.cell (AV.int IntKind.i64 (↑s : Int))), (1, 0, Cont.cell (AV.int IntKind.i64 W)), (1, 1, Cont.cell (AV.int IntKind.i64 H)), (1, 2, Cont.cell (AV.rs 1 n false (nB g))), (1, 3, Cont.top), (2, 0, Cont.vec 1 3 (List.length L) (nL L))], 299, 154⟩) (by kernel_rfl) (by kernel_rfl) ?_ ?_
          · (simp only [All]; (repeat' apply And.intro) <;> (try intro _) <;> (try intro _) <;> (repeat' apply And.intro) <;> (try intro _) <;> (try intro _) <;> first | trivial | assumption | exact .inr trivial | exact .inr rfl | omega | rfl | exact ⟨_, rfl, rfl⟩ | exact ⟨rfl, rfl⟩ | exact ⟨fun _ => rfl, fun _ => rfl⟩ | (unfold maxLen; omega) | (unfold i64R; first | omega | decide) | decide)
          refine block_normal ?_
          refine then_normal ?_
          refine evC_goL0 (dec := []) (ks := [(0, 2), (0, 3), (0, 4), (0, 6), (0, 8), (0, 9), (0, 10), (0, 11), (1, 0), (1, 1), (1, 2), (1, 3), (2, 0)]) (s' := ⟨[(0, 2, Cont.cell (AV.bool false)), (0, 3, Cont.cell (AV.ptr 1 0)), (0, 4, Cont.cell (AV.vs 2)), (0, 6, Cont.cell (AV.int IntKind.i64 (C k))), (0, 8, Cont.cell (AV.int IntKind.i64 (C k - C c))), (0, 9, Cont.cell (AV.int IntKind.i64 (↑q : Int))), (0, 10, Cont.cell (AV.int IntKind.i64 (prc s))), (0, 11, Cont.cell (AV.int IntKind.i64 (IntKind.i64.wrap ((↑s : Int) + 1)))), (1, 0, Cont.cell (AV.int IntKind.i64 W)), (1, 1, Cont.cell (AV.int IntKind.i64 H)), (1, 2, Cont.cell (AV.rs 1 n false (nB g))), (1, 3, Cont.top), (2, 0, Cont.vec 1 3 (List.length L) (nL L))], 323, 154⟩) (by kernel_rfl) (by kernel_rfl) ?_
          rw [wrap_add_one hs8 (by omega)]
          refine round_normal (⟨s + 1, hs8⟩) (wk_go [1, 2] rfl (by decide) rfl rfl ⟨⟨_, rfl, rfl⟩, ⟨_, rfl, rfl⟩, ⟨_, rfl, rfl⟩, ⟨_, rfl, rfl⟩, ⟨_, rfl, rfl⟩, ⟨_, rfl, rfl⟩, ⟨_, rfl, ?_⟩, ⟨_, rfl, rfl⟩, ⟨_, rfl, rfl⟩, ⟨_, rfl, rfl⟩, ⟨_, rfl, rfl⟩, ⟨_, rfl, trivial⟩, ⟨_, rfl, ⟨rfl, rfl, rfl, fun _ _ => rfl⟩⟩, trivial⟩) ?_
          · show AV.int .i64 (prc s) = AV.int .i64 (bif Nat.blt s (s + 1) then prc s else -1)
            rw [nblt_yes (by omega)]; rfl
          · show 8 - (s + 1) < 8 - s
            omega
        · have hss : s ≠ s0 := by
            intro e; subst e; simp at hc
          clear hc
          refine evC_skip ?_
          refine block_normal ?_
          refine then_normal ?_
          refine evC_goL0 (dec := []) (ks := [(0, 2), (0, 3), (0, 4), (0, 6), (0, 8), (0, 9), (0, 10), (0, 11), (1, 0), (1, 1), (1, 2), (1, 3), (2, 0)]) (s' := ⟨[(0, 2, Cont.cell (AV.bool false)), (0, 3, Cont.cell (AV.ptr 1 0)), (0, 4, Cont.cell (AV.vs 2)), (0, 6, Cont.cell (AV.int IntKind.i64 (C k))), (0, 8, Cont.cell (AV.int IntKind.i64 (C k - C c))), (0, 9, Cont.cell (AV.int IntKind.i64 (↑q : Int))), (0, 10, Cont.cell (AV.int IntKind.i64 (bif Nat.blt s0 s then prc s0 else -1))), (0, 11, Cont.cell (AV.int IntKind.i64 (IntKind.i64.wrap ((↑s : Int) + 1)))), (1, 0, Cont.cell (AV.int IntKind.i64 W)), (1, 1, Cont.cell (AV.int IntKind.i64 H)), (1, 2, Cont.cell (AV.rs 1 n false (nB g))), (1, 3, Cont.top), (2, 0, Cont.vec 1 3 (List.length L) (nL L))], 299, 154⟩) (by kernel_rfl) (by kernel_rfl) ?_
          rw [wrap_add_one hs8 (by omega)]
          refine round_normal (⟨s + 1, hs8⟩) (wk_go [1, 2] rfl (by decide) rfl rfl ⟨⟨_, rfl, rfl⟩, ⟨_, rfl, rfl⟩, ⟨_, rfl, rfl⟩, ⟨_, rfl, rfl⟩, ⟨_, rfl, rfl⟩, ⟨_, rfl, rfl⟩, ⟨_, rfl, ?_⟩, ⟨_, rfl, rfl⟩, ⟨_, rfl, rfl⟩, ⟨_, rfl, rfl⟩, ⟨_, rfl, rfl⟩, ⟨_, rfl, trivial⟩, ⟨_, rfl, ⟨rfl, rfl, rfl, fun _ _ => rfl⟩⟩, trivial⟩) ?_
          · show AV.int .i64 (bif Nat.blt s0 s then prc s0 else -1) = AV.int .i64 (bif Nat.blt s0 (s + 1) then prc s0 else -1)
            rcases Nat.lt_or_ge s0 s with h | h
            · rw [nblt_yes h, nblt_yes (by omega)]
            · rw [nblt_no (by omega), nblt_no (by omega)]
          · show 8 - (s + 1) < 8 - s
            omega
      · have hs8 : s = 8 := by have := of_decide_eq_false hc; omega
        subst hs8
        clear hc
        rw [nblt_yes (by omega : s0 < 8)]
        simp only [cond_true]
        refine evC_exit ?_
        refine then_exit ?_
        refine round_exit ?_
        refine block_exit ?_
        refine then_normal ?_
        refine evC_seq ?_
        refine evC_go0 (dec := []) (ks := [(0, 2), (0, 3), (0, 4), (0, 6), (0, 8), (0, 9), (0, 10), (0, 130), (1, 0), (1, 1), (1, 2), (1, 3), (2, 0)]) (s' := ⟨[(0, 2, Cont.cell (AV.bool false)), (0, 3, Cont.cell (AV.ptr 1 0)), (0, 4, Cont.cell (AV.vs 2)), (0, 6, Cont.cell (AV.int IntKind.i64 (C k))), (0, 8, Cont.cell (AV.int IntKind.i64 (C k - C c))), (0, 9, Cont.cell (AV.int IntKind.i64 (↑q : Int))), (0, 10, Cont.cell (AV.int IntKind.i64 (prc s0))), (0, 130, Cont.cell (AV.bool (decide (prc s0 < 0)))), (1, 0, Cont.cell (AV.int IntKind.i64 W)), (1, 1, Cont.cell (AV.int IntKind.i64 H)), (1, 2, Cont.cell (AV.rs 1 n false (nB g))), (1, 3, Cont.top), (2, 0, Cont.vec 1 3 (List.length L) (nL L))], 35, 154⟩) (by kernel_rfl) (by kernel_rfl) ?_
        refine evC_if (q := decide (prc s0 < 0)) (by kernel_rfl) (fun hc => ?_) (fun hc => ?_)
        · exfalso
          have := of_decide_eq_true hc
          omega
        clear hc
        refine evC_skip ?_
        refine then_normal ?_
        refine evC_go0 (dec := []) (ks := [(0, 2), (0, 3), (0, 4), (0, 6), (0, 8), (0, 9), (1, 0), (1, 1), (1, 2), (1, 3), (2, 0)]) (s' := ⟨[(0, 2, Cont.cell (AV.bool false)), (0, 3, Cont.cell (AV.ptr 1 0)), (0, 4, Cont.cell (AV.vs 2)), (0, 6, Cont.cell (AV.int IntKind.i64 (C k))), (0, 8, Cont.cell (AV.int IntKind.i64 (IntKind.i64.wrap (C k - C c + prc s0)))), (0, 9, Cont.cell (AV.int IntKind.i64 (↑q : Int))), (1, 0, Cont.cell (AV.int IntKind.i64 W)), (1, 1, Cont.cell (AV.int IntKind.i64 H)), (1, 2, Cont.cell (AV.rs 1 n false (nB g))), (1, 3, Cont.top), (2, 0, Cont.vec 1 3 (List.length L) (nL L))], 67, 154⟩) (by kernel_rfl) (by kernel_rfl) ?_
        rw [show IntKind.i64.wrap (C k - C c + prc s0) = C k - C q' from by rw [i64_in _ (by omega)]; omega]
        refine evC_go0 (dec := []) (ks := [(0, 2), (0, 3), (0, 4), (0, 6), (0, 8), (0, 9), (0, 12), (1, 0), (1, 1), (1, 2), (1, 3), (2, 0)]) (s' := ⟨[(0, 2, Cont.cell (AV.bool false)), (0, 3, Cont.cell (AV.ptr 1 0)), (0, 4, Cont.cell (AV.vs 2)), (0, 6, Cont.cell (AV.int IntKind.i64 (C k))), (0, 8, Cont.cell (AV.int IntKind.i64 (C k - C q'))), (0, 9, Cont.cell (AV.int IntKind.i64 (↑q : Int))), (0, 12, Cont.cell (AV.int IntKind.i64 0)), (1, 0, Cont.cell (AV.int IntKind.i64 W)), (1, 1, Cont.cell (AV.int IntKind.i64 H)), (1, 2, Cont.cell (AV.rs 1 n false (nB g))), (1, 3, Cont.top), (2, 0, Cont.vec 1 3 (List.length L) (nL L))], 75, 154⟩) (by kernel_rfl) (by kernel_rfl) ?_
        refine evC_block ?_
        refine evC_loop (ι := { p : Nat // p ≤ q }) (fun x => ⟨[(0, 2, Cont.cell (AV.bool false)), (0, 3, Cont.cell (AV.ptr 1 0)), (0, 4, Cont.cell (AV.vs 2)), (0, 6, Cont.cell (AV.int IntKind.i64 (C k))), (0, 8, Cont.cell (AV.int IntKind.i64 (C k - C q'))), (0, 9, Cont.cell (AV.int IntKind.i64 (↑q : Int))), (0, 12, .cell (.int .i64 (x.1 : Nat))), (1, 0, Cont.cell (AV.int IntKind.i64 W)), (1, 1, Cont.cell (AV.int IntKind.i64 H)), (1, 2, Cont.cell (AV.rs 1 n false (nB g))), (1, 3, Cont.top), (2, 0, Cont.vec 1 3 (List.length L) (nL L))], 3, 154⟩) (fun x => q - x.1) ⟨0, Nat.zero_le _⟩ (wk_go [1, 2] rfl (by decide) rfl rfl ⟨⟨_, rfl, rfl⟩, ⟨_, rfl, rfl⟩, ⟨_, rfl, rfl⟩, ⟨_, rfl, rfl⟩, ⟨_, rfl, rfl⟩, ⟨_, rfl, rfl⟩, ⟨_, rfl, rfl⟩, ⟨_, rfl, rfl⟩, ⟨_, rfl, rfl⟩, ⟨_, rfl, rfl⟩, ⟨_, rfl, trivial⟩, ⟨_, rfl, rfl, rfl, rfl, fun _ _ => rfl⟩, trivial⟩) ?_
        rintro ⟨p, hp⟩
        simp only
        refine evC_seq ?_
        refine evC_go0 (dec := []) (ks := [(0, 2), (0, 3), (0, 4), (0, 6), (0, 8), (0, 9), (0, 12), (0, 136), (1, 0), (1, 1), (1, 2), (1, 3), (2, 0)]) (s' := ⟨[(0, 2, Cont.cell (AV.bool false)), (0, 3, Cont.cell (AV.ptr 1 0)), (0, 4, Cont.cell (AV.vs 2)), (0, 6, Cont.cell (AV.int IntKind.i64 (C k))), (0, 8, Cont.cell (AV.int IntKind.i64 (C k - C q'))), (0, 9, Cont.cell (AV.int IntKind.i64 (↑q : Int))), (0, 12, Cont.cell (AV.int IntKind.i64 (↑p : Int))), (0, 136, Cont.cell (AV.bool (decide ((↑p : Int) < (↑q : Int))))), (1, 0, Cont.cell (AV.int IntKind.i64 W)), (1, 1, Cont.cell (AV.int IntKind.i64 H)), (1, 2, Cont.cell (AV.rs 1 n false (nB g))), (1, 3, Cont.top), (2, 0, Cont.vec 1 3 (List.length L) (nL L))], 27, 154⟩) (by kernel_rfl) (by kernel_rfl) ?_
        refine evC_if (q := decide ((↑p : Int) < (↑q : Int))) (by kernel_rfl) (fun hc => ?_) (fun hc => ?_)
        · have hpq : p < q := by have := of_decide_eq_true hc; omega
          clear hc
          refine evC_skip ?_
          refine then_normal ?_
          refine evC_seq ?_
          refine evC_block ?_
          refine evC_go (dec := []) (ks := [(0, 2), (0, 3), (0, 4), (0, 6), (0, 8), (0, 9), (0, 12), (0, 147), (1, 0), (1, 1), (1, 2), (1, 3), (2, 0)]) (ps := [(0 : Int) ≤ (↑p : Int), (↑p : Int) < (↑(List.length L) : Int), (1 : Nat) = (1 : Nat), (0 : Int) ≤ (↑p : Int), (↑p : Int) < (↑(List.length L) : Int), (1 : Nat) = (1 : Nat), (0 : Int) ≤ (↑q : Int), (↑q : Int) < (↑(List.length L) : Int), (1 : Nat) = (1 : Nat), (0 : Int) ≤ (↑q : Int), (↑q : Int) < (↑(List.length L) : Int), (1 : Nat) = (1 : Nat)]) (s' := ⟨[(0, 2, Cont.cell (AV.bool false)), (0, 3, Cont.cell (AV.ptr 1 0)), (0, 4, Cont.cell (AV.vs 2)), (0, 6, Cont.cell (AV.int IntKind.i64 (C k))), (0, 8, Cont.cell (AV.int IntKind.i64 (C k - C q'))), (0, 9, Cont.cell (AV.int IntKind.i64 (↑q : Int))), (0, 12, Cont.cell (AV.int IntKind.i64 (↑p : Int))), (0, 147, Cont.cell (AV.bool (List.getD L p 0 == List.getD L q 0))), (1, 0, Cont.cell (AV.int IntKind.i64 W)), (1, 1, Cont.cell (AV.int IntKind.i64 H)), (1, 2, Cont.cell (AV.rs 1 n false (nB g))), (1, 3, Cont.top), (2, 0, Cont.vec 1 3 (List.length L) (nL L))], 99, 154⟩) (by kernel_rfl) (by kernel_rfl) ?_ ?_
          · (simp only [All]; (repeat' apply And.intro) <;> (try intro _) <;> (try intro _) <;> (repeat' apply And.intro) <;> (try intro _) <;> (try intro _) <;> first | trivial | assumption | exact .inr trivial | exact .inr rfl | omega | rfl | exact ⟨_, rfl, rfl⟩ | exact ⟨rfl, rfl⟩ | exact ⟨fun _ => rfl, fun _ => rfl⟩ | (unfold maxLen; omega) | (unfold i64R; first | omega | decide) | decide)
          have hne : (L.getD p 0 == L.getD q 0) = false := by
            have := g1.ne hpq hlt
            simpa using this
          rw [hne]
          refine evC_if (q := false) (by kernel_rfl) (fun hc => ?_) (fun hc => ?_)
          · cases hc
          clear hc
          refine evC_skip ?_
          refine block_normal ?_
          refine then_normal ?_
          refine evC_goL0 (dec := []) (ks := [(0, 2), (0, 3), (0, 4), (0, 6), (0, 8), (0, 9), (0, 12), (1, 0), (1, 1), (1, 2), (1, 3), (2, 0)]) (s' := ⟨[(0, 2, Cont.cell (AV.bool false)), (0, 3, Cont.cell (AV.ptr 1 0)), (0, 4, Cont.cell (AV.vs 2)), (0, 6, Cont.cell (AV.int IntKind.i64 (C k))), (0, 8, Cont.cell (AV.int IntKind.i64 (C k - C q'))), (0, 9, Cont.cell (AV.int IntKind.i64 (↑q : Int))), (0, 12, Cont.cell (AV.int IntKind.i64 (IntKind.i64.wrap ((↑p : Int) + 1)))), (1, 0, Cont.cell (AV.int IntKind.i64 W)), (1, 1, Cont.cell (AV.int IntKind.i64 H)), (1, 2, Cont.cell (AV.rs 1 n false (nB g))), (1, 3, Cont.top), (2, 0, Cont.vec 1 3 (List.length L) (nL L))], 123, 154⟩) (by kernel_rfl) (by kernel_rfl) ?_
          rw [wrap_add_one hpq (by omega)]
          refine round_normal (⟨p + 1, hpq⟩) (wk_go [1, 2] rfl (by decide) rfl rfl ⟨⟨_, rfl, rfl⟩, ⟨_, rfl, rfl⟩, ⟨_, rfl, rfl⟩, ⟨_, rfl, rfl⟩, ⟨_, rfl, rfl⟩, ⟨_, rfl, rfl⟩, ⟨_, rfl, rfl⟩, ⟨_, rfl, rfl⟩, ⟨_, rfl, rfl⟩, ⟨_, rfl, rfl⟩, ⟨_, rfl, trivial⟩, ⟨_, rfl, ⟨rfl, rfl, rfl, fun _ _ => rfl⟩⟩, trivial⟩) ?_
          · show q - (p + 1) < q - p
            omega
        · clear hc
          refine evC_exit ?_
          refine then_exit ?_
          refine round_exit ?_
          refine block_exit ?_
          refine block_normal ?_
          refine then_normal ?_
          refine evC_goL0 (dec := []) (ks := [(0, 2), (0, 3), (0, 4), (0, 6), (0, 8), (0, 9), (1, 0), (1, 1), (1, 2), (1, 3), (2, 0)]) (s' := ⟨[(0, 2, Cont.cell (AV.bool false)), (0, 3, Cont.cell (AV.ptr 1 0)), (0, 4, Cont.cell (AV.vs 2)), (0, 6, Cont.cell (AV.int IntKind.i64 (C k))), (0, 8, Cont.cell (AV.int IntKind.i64 (C k - C q'))), (0, 9, Cont.cell (AV.int IntKind.i64 (IntKind.i64.wrap ((↑q : Int) + 1)))), (1, 0, Cont.cell (AV.int IntKind.i64 W)), (1, 1, Cont.cell (AV.int IntKind.i64 H)), (1, 2, Cont.cell (AV.rs 1 n false (nB g))), (1, 3, Cont.top), (2, 0, Cont.vec 1 3 (List.length L) (nL L))], 51, 154⟩) (by kernel_rfl) (by kernel_rfl) ?_
          rw [wrap_add_one hlt (by omega)]
          refine round_normal (⟨q + 1, by omega, hlt⟩) (wk_go [1, 2] rfl (by decide) rfl rfl ⟨⟨_, rfl, rfl⟩, ⟨_, rfl, rfl⟩, ⟨_, rfl, rfl⟩, ⟨_, rfl, rfl⟩, ⟨_, rfl, ?_⟩, ⟨_, rfl, rfl⟩, ⟨_, rfl, rfl⟩, ⟨_, rfl, rfl⟩, ⟨_, rfl, rfl⟩, ⟨_, rfl, trivial⟩, ⟨_, rfl, ⟨rfl, rfl, rfl, fun _ _ => rfl⟩⟩, trivial⟩) ?_
          · show AV.int .i64 (C k - C q') = AV.int .i64 (C k - C (L.getD (q + 1 - 1) 0).toNat)
            rw [show q + 1 - 1 = q by omega, a2, Int.toNat_natCast]
          · show L.length - (q + 1) < L.length - q
            omega
    · have hlt : q = L.length := by have := of_decide_eq_false hc; omega
      clear hc
      subst hlt
      rw [g2, Int.toNat_natCast, hself, Int.sub_zero]
      refine evC_exit ?_
      refine then_exit ?_
      refine round_exit ?_
      refine block_exit ?_
      refine then_normal ?_
      refine evC_go0 (dec := []) (ks := [(0, 2)]) (s' := ⟨[(0, 2, Cont.cell (AV.bool (bif C k == C k then true else false)))], 91, 154⟩) (by kernel_rfl) (by kernel_rfl) ?_
      refine evC_ret ?_
      refine post_ret ?_
      refine ends_flat (vs := [AV.bool (bif C k == C k then true else false)]) (Nat.zero_lt_succ _) (by kernel_rfl) (flat_of _ (by kernel_rfl)) rfl ?_
      simp [oneAV]
  · cases e
end Go.Eng.S13
