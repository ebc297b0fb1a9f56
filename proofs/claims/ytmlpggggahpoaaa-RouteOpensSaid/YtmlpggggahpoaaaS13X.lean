/- Seat 13: the law of there and back, walked. -/
import Derived.Test.YtmlpggggahpoaaaEngX
import Derived.Test.YtmlpggggahpoaaaS13T
import Derived.Test.YtmlpggggahpoaaaS13U
set_option linter.unusedSimpArgs false
set_option linter.unusedVariables false
namespace Go.Eng.S13
open Go.Proofs Go.IntWalk
set_option maxRecDepth 10000

theorem law_back_ok : SpecOK Try.prog 5 sLawW := by
  refine spec_own (by kernel_rfl) T_ok (sget_cons few_ok (sget_cons small_ok (sget_cons awake_ok (sget_cons cost_one_ok sget_nil)))) Try.func5 rfl rfl fun args hr nb out e => ?_
  unfold sLawW at e
  split at e
  · rename_i W H n0 b f k t m y
    injection e with e; subst e
    refine ⟨(fun _ h => nomatch h), false, [asked W H n0 (Bf f) k t m y], rfl, fun hs => ?_⟩
    obtain ⟨h1, h2⟩ := hs _ List.mem_cons_self
    have i1 : IsB n0 f := ⟨fun i _ => congrFun h1 i⟩
    refine ⟨asked_rs i1 .nil, ?_⟩
    clear hs h1 i1
    generalize Bf f = g
    unfold asked
    refine evC_go0 (dec := []) (ks := [(0, 1), (0, 2), (1, 0), (1, 1), (1, 2), (1, 3), (1, 4), (1, 5), (1, 6), (1, 7)]) (s' := ⟨[(0, 1, Cont.cell (AV.ptr 1 0)), (0, 2, Cont.cell (AV.bool false)), (1, 0, Cont.cell (AV.int IntKind.i64 W)), (1, 1, Cont.cell (AV.int IntKind.i64 H)), (1, 2, Cont.cell (AV.rs 1 n0 false (nB g))), (1, 3, Cont.cell (AV.int IntKind.i64 k)), (1, 4, Cont.cell (AV.int IntKind.i64 t)), (1, 5, Cont.cell (AV.int IntKind.i64 m)), (1, 6, Cont.cell (AV.int IntKind.i64 y)), (1, 7, Cont.top)], 17, 81⟩) (by kernel_rfl) (by kernel_rfl) ?_
    refine evC_go (dec := []) (ks := [(0, 1), (0, 2), (0, 3), (1, 0), (1, 1), (1, 2), (1, 3), (1, 4), (1, 5), (1, 6), (1, 7), (41, 0), (41, 1), (41, 2), (41, 3)]) (ps := [IsB n0 (nB g), n0 ≤ maxLen]) (s' := ⟨[(0, 1, Cont.cell (AV.ptr 1 0)), (0, 2, Cont.cell (AV.bool false)), (0, 3, Cont.cell (AV.ptr 41 0)), (1, 0, Cont.cell (AV.int IntKind.i64 W)), (1, 1, Cont.cell (AV.int IntKind.i64 H)), (1, 2, Cont.cell (AV.rs 1 n0 false (nB g))), (1, 3, Cont.cell (AV.int IntKind.i64 k)), (1, 4, Cont.cell (AV.int IntKind.i64 t)), (1, 5, Cont.cell (AV.int IntKind.i64 m)), (1, 6, Cont.cell (AV.int IntKind.i64 y)), (1, 7, Cont.top), (41, 0, Cont.cell (AV.int IntKind.i64 W)), (41, 1, Cont.cell (AV.int IntKind.i64 H)), (41, 2, Cont.cell (AV.rs 1 (cut41 n0) false (nB (Bf (nB g))))), (41, 3, Cont.top)], 57, 81⟩) (by kernel_rfl) (by kernel_rfl) ?_ ?_
    · exact ⟨isB n0 g, h2⟩
    rw [Bf_nB]
    have hn := cut41_le n0
    generalize cut41 n0 = n at hn
    have i1 := isB n g
    refine evC_seq ?_
    refine evC_go (dec := []) (ks := [(0, 1), (0, 2), (0, 3), (0, 17), (1, 0), (1, 1), (1, 2), (1, 3), (1, 4), (1, 5), (1, 6), (1, 7), (41, 0), (41, 1), (41, 2), (41, 3)]) (ps := [IsB n (nB g)]) (s' := ⟨[(0, 1, Cont.cell (AV.ptr 1 0)), (0, 2, Cont.cell (AV.bool false)), (0, 3, Cont.cell (AV.ptr 41 0)), (0, 17, Cont.cell (AV.bool !decide (n ≤ 160))), (1, 0, Cont.cell (AV.int IntKind.i64 W)), (1, 1, Cont.cell (AV.int IntKind.i64 H)), (1, 2, Cont.cell (AV.rs 1 n0 false (nB g))), (1, 3, Cont.cell (AV.int IntKind.i64 k)), (1, 4, Cont.cell (AV.int IntKind.i64 t)), (1, 5, Cont.cell (AV.int IntKind.i64 m)), (1, 6, Cont.cell (AV.int IntKind.i64 y)), (1, 7, Cont.top), (41, 0, Cont.cell (AV.int IntKind.i64 W)), (41, 1, Cont.cell (AV.int IntKind.i64 H)), (41, 2, Cont.cell (AV.rs 1 n false (nB g))), (41, 3, Cont.top)], 81, 81⟩) (by kernel_rfl) (by kernel_rfl) ?_ ?_
    · exact i1
    refine evC_if (q := !decide (n ≤ 160)) (by kernel_rfl) (fun hc => ?_) (fun hc => ?_)
    · refine evC_go0 (dec := []) (ks := [(0, 1), (0, 2), (0, 3), (1, 0), (1, 1), (1, 2), (1, 3), (1, 4), (1, 5), (1, 6), (1, 7), (41, 0), (41, 1), (41, 2), (41, 3)]) (s' := ⟨[(0, 1, Cont.cell (AV.ptr 1 0)), (0, 2, Cont.cell (AV.bool true)), (0, 3, Cont.cell (AV.ptr 41 0)), (1, 0, Cont.cell (AV.int IntKind.i64 W)), (1, 1, Cont.cell (AV.int IntKind.i64 H)), (1, 2, Cont.cell (AV.rs 1 n0 false (nB g))), (1, 3, Cont.cell (AV.int IntKind.i64 k)), (1, 4, Cont.cell (AV.int IntKind.i64 t)), (1, 5, Cont.cell (AV.int IntKind.i64 m)), (1, 6, Cont.cell (AV.int IntKind.i64 y)), (1, 7, Cont.top), (41, 0, Cont.cell (AV.int IntKind.i64 W)), (41, 1, Cont.cell (AV.int IntKind.i64 H)), (41, 2, Cont.cell (AV.rs 1 n false (nB g))), (41, 3, Cont.top)], 97, 81⟩) (by kernel_rfl) (by kernel_rfl) ?_
      refine evC_ret ?_
      refine then_ret ?_
      refine post_ret ?_
      refine ends_flat (vs := [AV.bool true]) (Nat.zero_lt_succ _) (by kernel_rfl) (flat_of _ (by kernel_rfl)) rfl ?_
      rfl
    clear hc
    refine evC_skip ?_
    refine then_normal ?_
    refine evC_go (dec := []) (ks := [(0, 1), (0, 2), (0, 3), (0, 4), (0, 5), (1, 0), (1, 1), (1, 2), (1, 3), (1, 4), (1, 5), (1, 6), (1, 7), (41, 0), (41, 1), (41, 2), (41, 3)]) (ps := [IsB n (nB g)]) (s' := ⟨[(0, 1, Cont.cell (AV.ptr 1 0)), (0, 2, Cont.cell (AV.bool false)), (0, 3, Cont.cell (AV.ptr 41 0)), (0, 4, Cont.cell (AV.int IntKind.i64 (costV W H (Bf (nB g)) n k t))), (0, 5, Cont.cell (AV.int IntKind.i64 (costE W H (Bf (nB g)) n k t))), (1, 0, Cont.cell (AV.int IntKind.i64 W)), (1, 1, Cont.cell (AV.int IntKind.i64 H)), (1, 2, Cont.cell (AV.rs 1 n0 false (nB g))), (1, 3, Cont.cell (AV.int IntKind.i64 k)), (1, 4, Cont.cell (AV.int IntKind.i64 t)), (1, 5, Cont.cell (AV.int IntKind.i64 m)), (1, 6, Cont.cell (AV.int IntKind.i64 y)), (1, 7, Cont.top), (41, 0, Cont.cell (AV.int IntKind.i64 W)), (41, 1, Cont.cell (AV.int IntKind.i64 H)), (41, 2, Cont.cell (AV.rs 1 n false (nB g))), (41, 3, Cont.top)], 169, 81⟩) (by kernel_rfl) (by kernel_rfl) ?_ ?_
    · exact i1
    rw [Bf_nB]
    refine evC_go (dec := []) (ks := [(0, 1), (0, 2), (0, 3), (0, 4), (0, 5), (0, 6), (0, 7), (1, 0), (1, 1), (1, 2), (1, 3), (1, 4), (1, 5), (1, 6), (1, 7), (41, 0), (41, 1), (41, 2), (41, 3)]) (ps := [IsB n (nB g)]) (s' := ⟨[(0, 1, Cont.cell (AV.ptr 1 0)), (0, 2, Cont.cell (AV.bool false)), (0, 3, Cont.cell (AV.ptr 41 0)), (0, 4, Cont.cell (AV.int IntKind.i64 (costV W H g n k t))), (0, 5, Cont.cell (AV.int IntKind.i64 (costE W H g n k t))), (0, 6, Cont.cell (AV.int IntKind.i64 (costV W H (Bf (nB g)) n t k))), (0, 7, Cont.cell (AV.int IntKind.i64 (costE W H (Bf (nB g)) n t k))), (1, 0, Cont.cell (AV.int IntKind.i64 W)), (1, 1, Cont.cell (AV.int IntKind.i64 H)), (1, 2, Cont.cell (AV.rs 1 n0 false (nB g))), (1, 3, Cont.cell (AV.int IntKind.i64 k)), (1, 4, Cont.cell (AV.int IntKind.i64 t)), (1, 5, Cont.cell (AV.int IntKind.i64 m)), (1, 6, Cont.cell (AV.int IntKind.i64 y)), (1, 7, Cont.top), (41, 0, Cont.cell (AV.int IntKind.i64 W)), (41, 1, Cont.cell (AV.int IntKind.i64 H)), (41, 2, Cont.cell (AV.rs 1 n false (nB g))), (41, 3, Cont.top)], 257, 81⟩) (by kernel_rfl) (by kernel_rfl) ?_ ?_
    · exact i1
    rw [Bf_nB]
    obtain ⟨s1, s2⟩ := cost_sym (W := W) (H := H) (g := g) (n := n) (k := t) (t := k)
    rw [s1, s2]
    clear s1 s2
    refine evC_seq ?_
    refine evC_go0 (dec := []) (ks := [(0, 1), (0, 2), (0, 3), (0, 4), (0, 5), (0, 44), (1, 0), (1, 1), (1, 2), (1, 3), (1, 4), (1, 5), (1, 6), (1, 7), (41, 0), (41, 1), (41, 2), (41, 3)]) (s' := ⟨[(0, 1, Cont.cell (AV.ptr 1 0)), (0, 2, Cont.cell (AV.bool false)), (0, 3, Cont.cell (AV.ptr 41 0)), (0, 4, Cont.cell (AV.int IntKind.i64 (costV W H g n k t))), (0, 5, Cont.cell (AV.int IntKind.i64 (costE W H g n k t))), (0, 44, Cont.cell (AV.bool (bif costV W H g n k t != costV W H g n k t then true else costE W H g n k t != costE W H g n k t))), (1, 0, Cont.cell (AV.int IntKind.i64 W)), (1, 1, Cont.cell (AV.int IntKind.i64 H)), (1, 2, Cont.cell (AV.rs 1 n0 false (nB g))), (1, 3, Cont.cell (AV.int IntKind.i64 k)), (1, 4, Cont.cell (AV.int IntKind.i64 t)), (1, 5, Cont.cell (AV.int IntKind.i64 m)), (1, 6, Cont.cell (AV.int IntKind.i64 y)), (1, 7, Cont.top), (41, 0, Cont.cell (AV.int IntKind.i64 W)), (41, 1, Cont.cell (AV.int IntKind.i64 H)), (41, 2, Cont.cell (AV.rs 1 n false (nB g))), (41, 3, Cont.top)], 321, 81⟩) (by kernel_rfl) (by kernel_rfl) ?_
    refine evC_if (q := bif costV W H g n k t != costV W H g n k t then true else costE W H g n k t != costE W H g n k t) (by kernel_rfl) (fun hc => ?_) (fun hc => ?_)
    · exfalso
      simp at hc
    clear hc
    refine evC_skip ?_
    refine then_normal ?_
    refine evC_go (dec := []) (ks := [(0, 1), (0, 2), (0, 3), (0, 4), (0, 5), (0, 8), (0, 9), (1, 0), (1, 1), (1, 2), (1, 3), (1, 4), (1, 5), (1, 6), (1, 7), (41, 0), (41, 1), (41, 2), (41, 3)]) (ps := [IsB n (nB g)]) (s' := ⟨[(0, 1, Cont.cell (AV.ptr 1 0)), (0, 2, Cont.cell (AV.bool false)), (0, 3, Cont.cell (AV.ptr 41 0)), (0, 4, Cont.cell (AV.int IntKind.i64 (costV W H g n k t))), (0, 5, Cont.cell (AV.int IntKind.i64 (costE W H g n k t))), (0, 8, Cont.cell (AV.int IntKind.i64 (costV W H (Bf (nB g)) n k y))), (0, 9, Cont.cell (AV.int IntKind.i64 (costE W H (Bf (nB g)) n k y))), (1, 0, Cont.cell (AV.int IntKind.i64 W)), (1, 1, Cont.cell (AV.int IntKind.i64 H)), (1, 2, Cont.cell (AV.rs 1 n0 false (nB g))), (1, 3, Cont.cell (AV.int IntKind.i64 k)), (1, 4, Cont.cell (AV.int IntKind.i64 t)), (1, 5, Cont.cell (AV.int IntKind.i64 m)), (1, 6, Cont.cell (AV.int IntKind.i64 y)), (1, 7, Cont.top), (41, 0, Cont.cell (AV.int IntKind.i64 W)), (41, 1, Cont.cell (AV.int IntKind.i64 H)), (41, 2, Cont.cell (AV.rs 1 n false (nB g))), (41, 3, Cont.top)], 409, 81⟩) (by kernel_rfl) (by kernel_rfl) ?_ ?_
    · exact i1
    rw [Bf_nB]
    refine evC_go (dec := []) (ks := [(0, 2), (0, 4), (0, 5), (0, 8), (0, 9), (0, 10), (0, 11)]) (ps := [IsB n (nB g)]) (s' := ⟨[(0, 2, Cont.cell (AV.bool false)), (0, 4, Cont.cell (AV.int IntKind.i64 (costV W H g n k t))), (0, 5, Cont.cell (AV.int IntKind.i64 (costE W H g n k t))), (0, 8, Cont.cell (AV.int IntKind.i64 (costV W H g n k y))), (0, 9, Cont.cell (AV.int IntKind.i64 (costE W H g n k y))), (0, 10, Cont.cell (AV.int IntKind.i64 (costV W H (Bf (nB g)) n y t))), (0, 11, Cont.cell (AV.int IntKind.i64 (costE W H (Bf (nB g)) n y t)))], 497, 81⟩) (by kernel_rfl) (by kernel_rfl) ?_ ?_
    · exact i1
    rw [Bf_nB]
    have b1 := cost_bd (W := W) (H := H) (g := g) (n := n) (k := k) (t := y)
    have b2 := cost_bd (W := W) (H := H) (g := g) (n := n) (k := y) (t := t)
    have tri := cost_tri (W := W) (H := H) (g := g) (n := n) (k := k) (t := t) (y := y)
    generalize costE W H g n k y = e1 at tri
    generalize costE W H g n y t = e2 at tri
    generalize costE W H g n k t = e3 at tri
    generalize costV W H g n k y = v1 at b1 tri
    generalize costV W H g n y t = v2 at b2 tri
    generalize costV W H g n k t = v3 at tri
    have hf : (bif bif e1 == 0 then e2 == 0 else false then bif e3 != 0 then true else decide (v3 > IntKind.i64.wrap (v1 + v2)) else false) = false := by
      rw [i64_in _ (by omega)]
      by_cases h1 : e1 = 0
      · by_cases h2 : e2 = 0
        · obtain ⟨h3, h4⟩ := tri h1 h2
          subst h1; subst h2; subst h3
          show decide (v3 > v1 + v2) = false
          exact decide_eq_false (by omega)
        · have : (e2 == 0) = false := by simpa using h2
          subst h1
          rw [this]; rfl
      · have : (e1 == 0) = false := by simpa using h1
        rw [this]; rfl
    clear tri
    refine evC_seq ?_
    refine evC_go0 (dec := []) (ks := [(0, 2), (0, 79)]) (s' := ⟨[(0, 2, Cont.cell (AV.bool false)), (0, 79, Cont.cell (AV.bool (bif bif e1 == 0 then e2 == 0 else false then bif e3 != 0 then true else decide (v3 > IntKind.i64.wrap (v1 + v2)) else false)))], 633, 81⟩) (by kernel_rfl) (by kernel_rfl) ?_
    refine evC_if (q := bif bif e1 == 0 then e2 == 0 else false then bif e3 != 0 then true else decide (v3 > IntKind.i64.wrap (v1 + v2)) else false) (by kernel_rfl) (fun hc => ?_) (fun hc => ?_)
    · rw [hf] at hc; cases hc
    refine evC_skip ?_
    refine then_normal ?_
    refine evC_go0 (dec := []) (ks := [(0, 2)]) (s' := ⟨[(0, 2, Cont.cell (AV.bool true))], 649, 81⟩) (by kernel_rfl) (by kernel_rfl) ?_
    refine evC_ret ?_
    refine post_ret ?_
    refine ends_flat (vs := [AV.bool true]) (Nat.zero_lt_succ _) (by kernel_rfl) (flat_of _ (by kernel_rfl)) rfl ?_
    rfl
  · cases e
theorem law_opens_ok : SpecOK Try.prog 7 sLawW := by
  refine spec_own (by kernel_rfl) T_ok (sget_cons few_ok (sget_cons small_ok (sget_cons awake_ok (sget_cons cost_one_ok sget_nil)))) Try.func7 rfl rfl fun args hr nb out e => ?_
  unfold sLawW at e
  split at e
  · rename_i W H n0 b f k t m y
    injection e with e; subst e
    refine ⟨(fun _ h => nomatch h), false, [asked W H n0 (Bf f) k t m y], rfl, fun hs => ?_⟩
    obtain ⟨h1, h2⟩ := hs _ List.mem_cons_self
    have i1 : IsB n0 f := ⟨fun i _ => congrFun h1 i⟩
    refine ⟨asked_rs i1 .nil, ?_⟩
    clear hs h1 i1
    generalize Bf f = g
    unfold asked
    refine evC_go0 (dec := []) (ks := [(0, 1), (0, 2), (1, 0), (1, 1), (1, 2), (1, 3), (1, 4), (1, 5), (1, 6), (1, 7)]) (s' := ⟨[(0, 1, Cont.cell (AV.ptr 1 0)), (0, 2, Cont.cell (AV.bool false)), (1, 0, Cont.cell (AV.int IntKind.i64 W)), (1, 1, Cont.cell (AV.int IntKind.i64 H)), (1, 2, Cont.cell (AV.rs 1 n0 false (nB g))), (1, 3, Cont.cell (AV.int IntKind.i64 k)), (1, 4, Cont.cell (AV.int IntKind.i64 t)), (1, 5, Cont.cell (AV.int IntKind.i64 m)), (1, 6, Cont.cell (AV.int IntKind.i64 y)), (1, 7, Cont.top)], 17, 75⟩) (by kernel_rfl) (by kernel_rfl) ?_
    refine evC_go (dec := []) (ks := [(0, 1), (0, 2), (0, 3), (1, 0), (1, 1), (1, 2), (1, 3), (1, 4), (1, 5), (1, 6), (1, 7), (41, 0), (41, 1), (41, 2), (41, 3)]) (ps := [IsB n0 (nB g), n0 ≤ maxLen]) (s' := ⟨[(0, 1, Cont.cell (AV.ptr 1 0)), (0, 2, Cont.cell (AV.bool false)), (0, 3, Cont.cell (AV.ptr 41 0)), (1, 0, Cont.cell (AV.int IntKind.i64 W)), (1, 1, Cont.cell (AV.int IntKind.i64 H)), (1, 2, Cont.cell (AV.rs 1 n0 false (nB g))), (1, 3, Cont.cell (AV.int IntKind.i64 k)), (1, 4, Cont.cell (AV.int IntKind.i64 t)), (1, 5, Cont.cell (AV.int IntKind.i64 m)), (1, 6, Cont.cell (AV.int IntKind.i64 y)), (1, 7, Cont.top), (41, 0, Cont.cell (AV.int IntKind.i64 W)), (41, 1, Cont.cell (AV.int IntKind.i64 H)), (41, 2, Cont.cell (AV.rs 1 (cut41 n0) false (nB (Bf (nB g))))), (41, 3, Cont.top)], 57, 75⟩) (by kernel_rfl) (by kernel_rfl) ?_ ?_
    · exact ⟨isB n0 g, h2⟩
    rw [Bf_nB]
    have hn := cut41_le n0
    generalize cut41 n0 = n at hn
    have i1 := isB n g
    refine evC_seq ?_
    refine evC_go (dec := []) (ks := [(0, 1), (0, 2), (0, 3), (0, 27), (1, 0), (1, 1), (1, 2), (1, 3), (1, 4), (1, 5), (1, 6), (1, 7), (41, 0), (41, 1), (41, 2), (41, 3)]) (ps := [IsB n (nB g)]) (s' := ⟨[(0, 1, Cont.cell (AV.ptr 1 0)), (0, 2, Cont.cell (AV.bool false)), (0, 3, Cont.cell (AV.ptr 41 0)), (0, 27, Cont.cell (AV.bool (bif bif !decide (n ≤ 160) then true else decide (y < 0) then true else decide (y ≥ (↑n : Int))))), (1, 0, Cont.cell (AV.int IntKind.i64 W)), (1, 1, Cont.cell (AV.int IntKind.i64 H)), (1, 2, Cont.cell (AV.rs 1 n0 false (nB g))), (1, 3, Cont.cell (AV.int IntKind.i64 k)), (1, 4, Cont.cell (AV.int IntKind.i64 t)), (1, 5, Cont.cell (AV.int IntKind.i64 m)), (1, 6, Cont.cell (AV.int IntKind.i64 y)), (1, 7, Cont.top), (41, 0, Cont.cell (AV.int IntKind.i64 W)), (41, 1, Cont.cell (AV.int IntKind.i64 H)), (41, 2, Cont.cell (AV.rs 1 n false (nB g))), (41, 3, Cont.top)], 185, 75⟩) (by kernel_rfl) (by kernel_rfl) ?_ ?_
    · exact i1
    rw [cond_or, cond_or]
    refine evC_if (q := !decide (n ≤ 160) || decide (y < 0) || decide (y ≥ (↑n : Int))) (by kernel_rfl) (fun hc => ?_) (fun hc => ?_)
    · refine evC_go0 (dec := []) (ks := [(0, 1), (0, 2), (0, 3), (1, 0), (1, 1), (1, 2), (1, 3), (1, 4), (1, 5), (1, 6), (1, 7), (41, 0), (41, 1), (41, 2), (41, 3)]) (s' := ⟨[(0, 1, Cont.cell (AV.ptr 1 0)), (0, 2, Cont.cell (AV.bool true)), (0, 3, Cont.cell (AV.ptr 41 0)), (1, 0, Cont.cell (AV.int IntKind.i64 W)), (1, 1, Cont.cell (AV.int IntKind.i64 H)), (1, 2, Cont.cell (AV.rs 1 n0 false (nB g))), (1, 3, Cont.cell (AV.int IntKind.i64 k)), (1, 4, Cont.cell (AV.int IntKind.i64 t)), (1, 5, Cont.cell (AV.int IntKind.i64 m)), (1, 6, Cont.cell (AV.int IntKind.i64 y)), (1, 7, Cont.top), (41, 0, Cont.cell (AV.int IntKind.i64 W)), (41, 1, Cont.cell (AV.int IntKind.i64 H)), (41, 2, Cont.cell (AV.rs 1 n false (nB g))), (41, 3, Cont.top)], 201, 75⟩) (by kernel_rfl) (by kernel_rfl) ?_
      refine evC_ret ?_
      refine then_ret ?_
      refine post_ret ?_
      refine ends_flat (vs := [AV.bool true]) (Nat.zero_lt_succ _) (by kernel_rfl) (flat_of _ (by kernel_rfl)) rfl ?_
      rfl
    have hy : 0 ≤ y ∧ y < (n : Int) := by
      simp only [Bool.or_eq_false_iff, decide_eq_false_iff_not] at hc
      omega
    clear hc
    obtain ⟨y, rfl⟩ := Int.eq_ofNat_of_zero_le hy.1
    have hyn : y < n := by omega
    refine evC_skip ?_
    refine then_normal ?_
    refine evC_go (dec := []) (ks := [(0, 1), (0, 2), (0, 3), (0, 4), (0, 5), (1, 0), (1, 1), (1, 2), (1, 3), (1, 4), (1, 5), (1, 6), (1, 7), (41, 0), (41, 1), (41, 2), (41, 3)]) (ps := [IsB n (nB g)]) (s' := ⟨[(0, 1, Cont.cell (AV.ptr 1 0)), (0, 2, Cont.cell (AV.bool false)), (0, 3, Cont.cell (AV.ptr 41 0)), (0, 4, Cont.cell (AV.int IntKind.i64 (costV W H (Bf (nB g)) n k t))), (0, 5, Cont.cell (AV.int IntKind.i64 (costE W H (Bf (nB g)) n k t))), (1, 0, Cont.cell (AV.int IntKind.i64 W)), (1, 1, Cont.cell (AV.int IntKind.i64 H)), (1, 2, Cont.cell (AV.rs 1 n0 false (nB g))), (1, 3, Cont.cell (AV.int IntKind.i64 k)), (1, 4, Cont.cell (AV.int IntKind.i64 t)), (1, 5, Cont.cell (AV.int IntKind.i64 m)), (1, 6, Cont.cell (AV.int IntKind.i64 (↑y : Int))), (1, 7, Cont.top), (41, 0, Cont.cell (AV.int IntKind.i64 W)), (41, 1, Cont.cell (AV.int IntKind.i64 H)), (41, 2, Cont.cell (AV.rs 1 n false (nB g))), (41, 3, Cont.top)], 273, 75⟩) (by kernel_rfl) (by kernel_rfl) ?_ ?_
    · exact i1
    rw [Bf_nB]
    refine evC_go (dec := []) (ks := [(0, 1), (0, 2), (0, 4), (0, 5), (0, 6), (1, 0), (1, 1), (1, 2), (1, 3), (1, 4), (1, 5), (1, 6), (1, 7), (329, 0), (345, 0), (345, 1), (345, 2), (345, 3)]) (ps := [((0 : Nat) + n) * (1 : Nat) ≤ (140737488355328 : Nat), (0 : Nat) + n ≤ maxLen, n = (0 : Nat) ∨ (1 : Nat) = (1 : Nat), (1 : Nat) = (1 : Nat), (4 : Nat) = (4 : Nat)]) (s' := ⟨[(0, 1, Cont.cell (AV.ptr 1 0)), (0, 2, Cont.cell (AV.bool false)), (0, 4, Cont.cell (AV.int IntKind.i64 (costV W H g n k t))), (0, 5, Cont.cell (AV.int IntKind.i64 (costE W H g n k t))), (0, 6, Cont.cell (AV.ptr 345 0)), (1, 0, Cont.cell (AV.int IntKind.i64 W)), (1, 1, Cont.cell (AV.int IntKind.i64 H)), (1, 2, Cont.cell (AV.rs 1 n0 false (nB g))), (1, 3, Cont.cell (AV.int IntKind.i64 k)), (1, 4, Cont.cell (AV.int IntKind.i64 t)), (1, 5, Cont.cell (AV.int IntKind.i64 m)), (1, 6, Cont.cell (AV.int IntKind.i64 (↑y : Int))), (1, 7, Cont.top), (329, 0, Cont.vec 1 4 (0 + n) (catF 0 (pget []) (nB g))), (345, 0, Cont.cell (AV.int IntKind.i64 W)), (345, 1, Cont.cell (AV.int IntKind.i64 H)), (345, 2, Cont.cell (AV.vs 329)), (345, 3, Cont.top)], 361, 75⟩) (by kernel_rfl) (by kernel_rfl) ?_ ?_
    · (simp only [All]; (repeat' apply And.intro) <;> (try intro _) <;> (try intro _) <;> (repeat' apply And.intro) <;> (try intro _) <;> (try intro _) <;> first | trivial | assumption | exact .inr trivial | exact .inr rfl | omega | rfl | exact ⟨_, rfl, rfl⟩ | exact ⟨rfl, rfl⟩ | exact ⟨fun _ => rfl, fun _ => rfl⟩ | (unfold maxLen; omega) | (unfold i64R; first | omega | decide) | decide)
    refine evC_go (dec := []) (ks := [(0, 1), (0, 2), (0, 4), (0, 5), (0, 6), (1, 0), (1, 1), (1, 2), (1, 3), (1, 4), (1, 5), (1, 6), (1, 7), (329, 0), (345, 0), (345, 1), (345, 2), (345, 3)]) (ps := [(0 : Int) ≤ (↑y : Int), (↑y : Int) < (↑((0 : Nat) + n) : Int), (1 : Nat) = (1 : Nat), (0 : Int) ≤ (↑y : Int), (↑y : Int) < (↑((0 : Nat) + n) : Int), (1 : Nat) = (1 : Nat), widthC (AV.cells (AV.bool true)) = (1 : Nat)]) (s' := ⟨[(0, 1, Cont.cell (AV.ptr 1 0)), (0, 2, Cont.cell (AV.bool false)), (0, 4, Cont.cell (AV.int IntKind.i64 (costV W H g n k t))), (0, 5, Cont.cell (AV.int IntKind.i64 (costE W H g n k t))), (0, 6, Cont.cell (AV.ptr 345 0)), (1, 0, Cont.cell (AV.int IntKind.i64 W)), (1, 1, Cont.cell (AV.int IntKind.i64 H)), (1, 2, Cont.cell (AV.rs 1 n0 false (nB g))), (1, 3, Cont.cell (AV.int IntKind.i64 k)), (1, 4, Cont.cell (AV.int IntKind.i64 t)), (1, 5, Cont.cell (AV.int IntKind.i64 m)), (1, 6, Cont.cell (AV.int IntKind.i64 (↑y : Int))), (1, 7, Cont.top), (329, 0, Cont.vec 1 4 (0 + n) fun j => bif j == y then AV.bool true else catF 0 (pget []) (nB g) j), (345, 0, Cont.cell (AV.int IntKind.i64 W)), (345, 1, Cont.cell (AV.int IntKind.i64 H)), (345, 2, Cont.cell (AV.vs 329)), (345, 3, Cont.top)], 409, 75⟩) (by kernel_rfl) (by kernel_rfl) ?_ ?_
    · (simp only [All]; (repeat' apply And.intro) <;> (try intro _) <;> (try intro _) <;> (repeat' apply And.intro) <;> (try intro _) <;> (try intro _) <;> first | trivial | assumption | exact .inr trivial | exact .inr rfl | omega | rfl | exact ⟨_, rfl, rfl⟩ | exact ⟨rfl, rfl⟩ | exact ⟨fun _ => rfl, fun _ => rfl⟩ | (unfold maxLen; omega) | (unfold i64R; first | omega | decide) | decide)
    refine evC_wk (s' := ⟨[(0, 1, Cont.cell (AV.ptr 1 0)), (0, 2, Cont.cell (AV.bool false)), (0, 4, Cont.cell (AV.int IntKind.i64 (costV W H g n k t))), (0, 5, Cont.cell (AV.int IntKind.i64 (costE W H g n k t))), (0, 6, Cont.cell (AV.ptr 2 0)), (1, 0, Cont.cell (AV.int IntKind.i64 W)), (1, 1, Cont.cell (AV.int IntKind.i64 H)), (1, 2, Cont.cell (AV.rs 1 n0 false (nB g))), (1, 3, Cont.cell (AV.int IntKind.i64 k)), (1, 4, Cont.cell (AV.int IntKind.i64 t)), (1, 5, Cont.cell (AV.int IntKind.i64 m)), (1, 6, Cont.cell (AV.int IntKind.i64 (↑y : Int))), (1, 7, Cont.top), (2, 0, Cont.cell (AV.int IntKind.i64 W)), (2, 1, Cont.cell (AV.int IntKind.i64 H)), (2, 2, Cont.cell (AV.vs 3)), (2, 3, Cont.top), (3, 0, .vec 1 4 n (nB fun j => bif j == y then true else g j))], 4, 75⟩) _ (wk_go [1, 345, 329] rfl (by decide) rfl rfl ⟨⟨_, rfl, rfl⟩, ⟨_, rfl, rfl⟩, ⟨_, rfl, rfl⟩, ⟨_, rfl, rfl⟩, ⟨_, rfl, rfl⟩, ⟨_, rfl, rfl⟩, ⟨_, rfl, rfl⟩, ⟨_, rfl, rfl⟩, ⟨_, rfl, rfl⟩, ⟨_, rfl, rfl⟩, ⟨_, rfl, rfl⟩, ⟨_, rfl, rfl⟩, ⟨_, rfl, trivial⟩, ⟨_, rfl, rfl⟩, ⟨_, rfl, rfl⟩, ⟨_, rfl, rfl⟩, ⟨_, rfl, trivial⟩, ⟨_, rfl, ?_⟩, trivial⟩) ?_
    · refine ⟨rfl, rfl, Nat.zero_add n, fun j hj => ?_⟩
      show (bif j == y then AV.bool true else catF 0 (pget []) (nB g) j) = AV.bool (bif j == y then true else g j)
      cases j == y <;> rfl
    have mono := cost_mono (W := W) (H := H) (n := n) (k := k) (t := t) (g := g) (g' := fun j => bif j == y then true else g j) fun i hi => by show (bif i == y then true else g i) = true; rw [hi]; cases i == y <;> rfl
    refine evC_go (dec := []) (ks := [(0, 2), (0, 4), (0, 5), (0, 7), (0, 8)]) (ps := [IsB n (nB fun j => bif j == y then true else g j)]) (s' := ⟨[(0, 2, Cont.cell (AV.bool false)), (0, 4, Cont.cell (AV.int IntKind.i64 (costV W H g n k t))), (0, 5, Cont.cell (AV.int IntKind.i64 (costE W H g n k t))), (0, 7, Cont.cell (AV.int IntKind.i64 (costV W H (Bf (nB fun j => bif j == y then true else g j)) n k t))), (0, 8, Cont.cell (AV.int IntKind.i64 (costE W H (Bf (nB fun j => bif j == y then true else g j)) n k t)))], 92, 75⟩) (by kernel_rfl) (by kernel_rfl) ?_ ?_
    · exact isB n _
    rw [Bf_nB]
    generalize costE W H g n k t = e1 at mono
    generalize costV W H g n k t = v1 at mono
    generalize costE W H (fun j => bif j == y then true else g j) n k t = e2 at mono
    generalize costV W H (fun j => bif j == y then true else g j) n k t = v2 at mono
    have hf : (bif bif e1 != 0 then true else bif e2 == 0 then decide (v2 ≤ v1) else false then true else false) = true := by
      by_cases h1 : e1 = 0
      · obtain ⟨h3, h4⟩ := mono h1
        subst h1; subst h3
        show (bif decide (v2 ≤ v1) then true else false) = true
        rw [decide_eq_true h4]; rfl
      · have : (e1 != 0) = true := by simpa [bne] using h1
        rw [this]; rfl
    clear mono
    refine evC_go0 (dec := []) (ks := [(0, 2)]) (s' := ⟨[(0, 2, Cont.cell (AV.bool (bif bif e1 != 0 then true else bif e2 == 0 then decide (v2 ≤ v1) else false then true else false)))], 212, 75⟩) (by kernel_rfl) (by kernel_rfl) ?_
    refine evC_ret ?_
    refine post_ret ?_
    refine ends_flat (vs := [AV.bool (bif bif e1 != 0 then true else bif e2 == 0 then decide (v2 ≤ v1) else false then true else false)]) (Nat.zero_lt_succ _) (by kernel_rfl) (flat_of _ (by kernel_rfl)) rfl ?_
    rw [hf]
    rfl
  · cases e
end Go.Eng.S13
