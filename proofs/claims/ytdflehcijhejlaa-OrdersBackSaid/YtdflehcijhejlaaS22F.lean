/- Seat 22: the document's answer to which orders may be given, walked. -/
import Derived.Test.YtdflehcijhejlaaEngX
import Derived.Test.YtdflehcijhejlaaS22E
set_option linter.unusedSimpArgs false
set_option linter.unusedVariables false
namespace Go.Eng.S22
open Go.Proofs Go.IntWalk
set_option maxRecDepth 10000

/-! The document's answer. -/
def sRthere : Spec := fun args _ _ => match args with
  | [.agg [.arr 64 f, .arr 64 g, .arr 64 e, .int .i64 W, .int .i64 H, .int .i64 K, .arr 64 n], .int .i64 id] => some ⟨[IsSc f g e n, mayA (fun i => iv (f i)) (fun i => bv (g i)) = true, 0 ≤ id ∧ id < 67108864], .int .i64 (thF (fun i => iv (f i)) (fun i => bv (g i)) id), [], []⟩
  | _ => none
theorem rthere_ok : SpecOK Try.prog 33 sRthere := by
  refine spec_own (by kernel_rfl) T_ok (sget_cons refPlace_ok (sget_cons given_ok (sget_cons last_ok sget_nil))) Try.func33 rfl rfl fun args hr nb out e => ?_
  unfold sRthere at e
  split at e
  · rename_i f g s W H K n id
    injection e with e; subst e
    refine ⟨(fun _ h => nomatch h), true, [sc (fun i => iv (f i)) (fun i => bv (g i)) (fun i => iv (s i)) W H K (fun i => bv (n i)), .int .i64 id], rfl, fun hs => ?_⟩
    have hA := hs _ List.mem_cons_self
    have hm := hs _ (List.mem_cons_of_mem _ List.mem_cons_self)
    have hi := hs _ (List.mem_cons_of_mem _ (List.mem_cons_of_mem _ List.mem_cons_self))
    rw [hA.eq]
    generalize (fun i => iv (f i)) = F at hm ⊢
    generalize (fun i => bv (g i)) = G at hm ⊢
    generalize (fun i => iv (s i)) = E, (fun i => bv (n i)) = N
    clear hs hA
    refine ⟨.cons _ _ _ _ (.same _ _ (sc_flat F G E W H K N).has) (.cons _ _ _ _ (.same _ _ (.int _ _)) .nil), ?_⟩
    have hA := isAr F G
    have hp := plF_range id
    have hpn : (plF id).toNat < 64 := by omega
    have hg := may_get hm hpn
    have hga : ∀ p, p < 64 → 0 ≤ F p ∧ F p ≤ 1048577 := fun p hp => by have := may_get hm hp; omega
    unfold sc
    refine evC_go0 (dec := []) (ks := [(0, 1), (0, 2), (0, 4), (1, 0), (1, 64), (1, 128), (1, 192), (1, 193), (1, 194), (1, 195), (1, 259)]) (s' := ⟨[(0, 1, Cont.cell (AV.int IntKind.i64 id)), (0, 2, Cont.cell (AV.ptr 1 0)), (0, 4, Cont.cell (AV.int IntKind.i64 0)), (1, 0, Cont.arr 64 fun i => AV.int IntKind.i64 (F i)), (1, 64, Cont.arr 64 fun i => AV.bool (G i)), (1, 128, Cont.arr 64 fun i => AV.int IntKind.i64 (E i)), (1, 192, Cont.cell (AV.int IntKind.i64 W)), (1, 193, Cont.cell (AV.int IntKind.i64 H)), (1, 194, Cont.cell (AV.int IntKind.i64 K)), (1, 195, Cont.arr 64 fun i => AV.bool (N i)), (1, 259, Cont.top)], 17, 27⟩) (by kernel_rfl) (by kernel_rfl) ?_
    refine evC_go0 (dec := []) (ks := [(0, 1), (0, 2), (0, 4), (0, 5), (1, 0), (1, 64), (1, 128), (1, 192), (1, 193), (1, 194), (1, 195), (1, 259)]) (s' := ⟨[(0, 1, Cont.cell (AV.int IntKind.i64 id)), (0, 2, Cont.cell (AV.ptr 1 0)), (0, 4, Cont.cell (AV.int IntKind.i64 0)), (0, 5, Cont.cell (AV.int IntKind.i64 (plF id))), (1, 0, Cont.arr 64 fun i => AV.int IntKind.i64 (F i)), (1, 64, Cont.arr 64 fun i => AV.bool (G i)), (1, 128, Cont.arr 64 fun i => AV.int IntKind.i64 (E i)), (1, 192, Cont.cell (AV.int IntKind.i64 W)), (1, 193, Cont.cell (AV.int IntKind.i64 H)), (1, 194, Cont.cell (AV.int IntKind.i64 K)), (1, 195, Cont.arr 64 fun i => AV.bool (N i)), (1, 259, Cont.top)], 41, 27⟩) (by kernel_rfl) (by kernel_rfl) ?_
    refine evC_seq ?_
    refine evC_go (dec := []) (ks := [(0, 1), (0, 2), (0, 4), (0, 5), (0, 12), (1, 0), (1, 64), (1, 128), (1, 192), (1, 193), (1, 194), (1, 195), (1, 259)]) (ps := [IsAr (fun i => AV.int IntKind.i64 (F i)) fun i => AV.bool (G i), ∀ (p : Nat), p < (64 : Nat) → (0 : Int) ≤ F p ∧ F p ≤ (1048577 : Int)]) (s' := ⟨[(0, 1, Cont.cell (AV.int IntKind.i64 id)), (0, 2, Cont.cell (AV.ptr 1 0)), (0, 4, Cont.cell (AV.int IntKind.i64 0)), (0, 5, Cont.cell (AV.int IntKind.i64 (plF id))), (0, 12, Cont.cell (AV.bool !givenF F id)), (1, 0, Cont.arr 64 fun i => AV.int IntKind.i64 (F i)), (1, 64, Cont.arr 64 fun i => AV.bool (G i)), (1, 128, Cont.arr 64 fun i => AV.int IntKind.i64 (E i)), (1, 192, Cont.cell (AV.int IntKind.i64 W)), (1, 193, Cont.cell (AV.int IntKind.i64 H)), (1, 194, Cont.cell (AV.int IntKind.i64 K)), (1, 195, Cont.arr 64 fun i => AV.bool (N i)), (1, 259, Cont.top)], 81, 27⟩) (by kernel_rfl) (by kernel_rfl) ?_ ?_
    · exact ⟨hA, hga⟩
    have ee : thF F G id = bif givenF F id then (bif (id == 64 * (F (plF id).toNat - 1) + plF id) && G (plF id).toNat then 0 else 12) else 6 := rfl
    rw [ee]
    clear ee
    refine evC_if (q := !givenF F id) (by kernel_rfl) (fun hc => ?_) (fun hc => ?_)
    · rw [(Bool.not_eq_true' _).mp hc]
      refine evC_go0 (dec := []) (ks := [(0, 1), (0, 2), (0, 4), (0, 5), (1, 0), (1, 64), (1, 128), (1, 192), (1, 193), (1, 194), (1, 195), (1, 259)]) (s' := ⟨[(0, 1, Cont.cell (AV.int IntKind.i64 id)), (0, 2, Cont.cell (AV.ptr 1 0)), (0, 4, Cont.cell (AV.int IntKind.i64 6)), (0, 5, Cont.cell (AV.int IntKind.i64 (plF id))), (1, 0, Cont.arr 64 fun i => AV.int IntKind.i64 (F i)), (1, 64, Cont.arr 64 fun i => AV.bool (G i)), (1, 128, Cont.arr 64 fun i => AV.int IntKind.i64 (E i)), (1, 192, Cont.cell (AV.int IntKind.i64 W)), (1, 193, Cont.cell (AV.int IntKind.i64 H)), (1, 194, Cont.cell (AV.int IntKind.i64 K)), (1, 195, Cont.arr 64 fun i => AV.bool (N i)), (1, 259, Cont.top)], 89, 27⟩) (by kernel_rfl) (by kernel_rfl) ?_
      refine evC_ret ?_
      refine then_ret ?_
      refine post_ret ?_
      refine ends_flat (vs := [AV.int IntKind.i64 6]) (Nat.zero_lt_succ _) (by kernel_rfl) (flat_of _ (by kernel_rfl)) rfl ?_
      rfl
    · rw [(Bool.not_eq_false' _).mp hc]
      clear hc
      simp only [cond_true]
      have e0 : (bif id != 64 * (F (plF id).toNat - 1) + plF id then true else !G (plF id).toNat) = !((id == 64 * (F (plF id).toNat - 1) + plF id) && G (plF id).toNat) := by
        unfold bne
        cases (id == 64 * (F (plF id).toNat - 1) + plF id) <;> rfl
      refine evC_skip ?_
      refine then_normal ?_
      refine evC_seq ?_
      refine evC_go (dec := []) (ks := [(0, 4), (0, 26)]) (ps := [IsAr (fun i => AV.int IntKind.i64 (F i)) fun i => AV.bool (G i), (0 : Int) ≤ plF id ∧ plF id < (64 : Int), (0 : Int) ≤ F (Int.toNat (plF id)) ∧ F (Int.toNat (plF id)) ≤ (1048577 : Int), List.all [!id != (64 : Int) * (F (Int.toNat (plF id)) - (1 : Int)) + plF id] _root_.id = true → (0 : Int) ≤ plF id, List.all [!id != (64 : Int) * (F (Int.toNat (plF id)) - (1 : Int)) + plF id] _root_.id = true → plF id < (↑(64 : Nat) : Int), List.all [!id != (64 : Int) * (F (Int.toNat (plF id)) - (1 : Int)) + plF id] _root_.id = true → (0 : Int) ≤ plF id, List.all [!id != (64 : Int) * (F (Int.toNat (plF id)) - (1 : Int)) + plF id] _root_.id = true → plF id < (↑(64 : Nat) : Int)]) (s' := ⟨[(0, 4, Cont.cell (AV.int IntKind.i64 0)), (0, 26, Cont.cell (AV.bool (bif id != 64 * (F (Int.toNat (plF id)) - 1) + plF id then true else !G (Int.toNat (plF id)))))], 193, 27⟩) (by kernel_rfl) (by kernel_rfl) ?_ ?_
      · exact ⟨hA, hp, ⟨hg.1, by show F (plF id).toNat ≤ 1048577; omega⟩, fun _ => hp.1, fun _ => hp.2, fun _ => hp.1, fun _ => hp.2⟩
      rw [e0]
      refine evC_if (q := !(id == 64 * (F (Int.toNat (plF id)) - 1) + plF id && G (Int.toNat (plF id)))) (by kernel_rfl) (fun hc => ?_) (fun hc => ?_)
      · rw [(Bool.not_eq_true' _).mp hc]
        refine evC_go0 (dec := []) (ks := [(0, 4)]) (s' := ⟨[(0, 4, Cont.cell (AV.int IntKind.i64 12))], 201, 27⟩) (by kernel_rfl) (by kernel_rfl) ?_
        refine evC_ret ?_
        refine then_ret ?_
        refine post_ret ?_
        refine ends_flat (vs := [AV.int IntKind.i64 12]) (Nat.zero_lt_succ _) (by kernel_rfl) (flat_of _ (by kernel_rfl)) rfl ?_
        rfl
      · rw [(Bool.not_eq_false' _).mp hc]
        refine evC_skip ?_
        refine then_normal ?_
        refine evC_go0 (dec := []) (ks := [(0, 4)]) (s' := ⟨[(0, 4, Cont.cell (AV.int IntKind.i64 0))], 201, 27⟩) (by kernel_rfl) (by kernel_rfl) ?_
        refine evC_ret ?_
        refine post_ret ?_
        refine ends_flat (vs := [AV.int IntKind.i64 0]) (Nat.zero_lt_succ _) (by kernel_rfl) (flat_of _ (by kernel_rfl)) rfl ?_
        rfl
  · cases e
theorem refCheck_ok : SpecOK Try.prog 20 sCheck := by
  refine spec_own (by kernel_rfl) T_ok (sget_cons refMay_ok (sget_cons refForm_ok (sget_cons rthere_ok (sget_cons refPlace_ok sget_nil)))) Try.func20 rfl rfl fun args hr nb out e => ?_
  unfold sCheck at e
  split at e
  · rename_i f g s W H K n team k u i j t
    injection e with e; subst e
    refine ⟨(fun _ h => nomatch h), true, [sc (fun i => iv (f i)) (fun i => bv (g i)) (fun i => iv (s i)) W H K (fun i => bv (n i)), .int .i64 team, od k u i j t], rfl, fun hs => ?_⟩
    have hA := hs _ List.mem_cons_self
    rw [hA.eq]
    generalize (fun i => iv (f i)) = F, (fun i => bv (g i)) = G, (fun i => iv (s i)) = E, (fun i => bv (n i)) = N
    clear hs hA
    refine ⟨.cons _ _ _ _ (.same _ _ (sc_flat F G E W H K N).has) (.cons _ _ _ _ (.same _ _ (.int _ _)) (.cons _ _ _ _ (.same _ _ (od_flat _ _ _ _ _).has) .nil)), ?_⟩
    have hA := isSc F G E N
    have hA2 := isAr F G
    unfold sc od
    refine evC_go0 (dec := []) (ks := [(0, 1), (0, 3), (0, 5), (0, 6), (1, 0), (1, 64), (1, 128), (1, 192), (1, 193), (1, 194), (1, 195), (1, 259), (9, 0), (9, 1), (9, 2), (9, 3), (9, 4), (9, 5)]) (s' := ⟨[(0, 1, Cont.cell (AV.int IntKind.i64 team)), (0, 3, Cont.cell (AV.ptr 1 0)), (0, 5, Cont.cell (AV.ptr 9 0)), (0, 6, Cont.cell (AV.int IntKind.i64 0)), (1, 0, Cont.arr 64 fun i => AV.int IntKind.i64 (F i)), (1, 64, Cont.arr 64 fun i => AV.bool (G i)), (1, 128, Cont.arr 64 fun i => AV.int IntKind.i64 (E i)), (1, 192, Cont.cell (AV.int IntKind.i64 W)), (1, 193, Cont.cell (AV.int IntKind.i64 H)), (1, 194, Cont.cell (AV.int IntKind.i64 K)), (1, 195, Cont.arr 64 fun i => AV.bool (N i)), (1, 259, Cont.top), (9, 0, Cont.cell (AV.int IntKind.i64 k)), (9, 1, Cont.cell (AV.int IntKind.i64 u)), (9, 2, Cont.cell (AV.int IntKind.i64 i)), (9, 3, Cont.cell (AV.int IntKind.i64 j)), (9, 4, Cont.cell (AV.int IntKind.i64 t)), (9, 5, Cont.top)], 25, 127⟩) (by kernel_rfl) (by kernel_rfl) ?_
    refine evC_go (dec := []) (ks := [(0, 1), (0, 3), (0, 5), (0, 6), (0, 7), (1, 0), (1, 64), (1, 128), (1, 192), (1, 193), (1, 194), (1, 195), (1, 259), (9, 0), (9, 1), (9, 2), (9, 3), (9, 4), (9, 5)]) (ps := [IsAr (fun i => AV.int IntKind.i64 (F i)) fun i => AV.bool (G i)]) (s' := ⟨[(0, 1, Cont.cell (AV.int IntKind.i64 team)), (0, 3, Cont.cell (AV.ptr 1 0)), (0, 5, Cont.cell (AV.ptr 9 0)), (0, 6, Cont.cell (AV.int IntKind.i64 0)), (0, 7, Cont.cell (AV.bool (bif bif bif bif bif bif mayA F G then decide (1 ≤ W) else false then decide (W ≤ 64) else false then decide (1 ≤ H) else false then decide (H ≤ 64) else false then decide (1 ≤ K) else false then decide (K ≤ 16) else false))), (1, 0, Cont.arr 64 fun i => AV.int IntKind.i64 (F i)), (1, 64, Cont.arr 64 fun i => AV.bool (G i)), (1, 128, Cont.arr 64 fun i => AV.int IntKind.i64 (E i)), (1, 192, Cont.cell (AV.int IntKind.i64 W)), (1, 193, Cont.cell (AV.int IntKind.i64 H)), (1, 194, Cont.cell (AV.int IntKind.i64 K)), (1, 195, Cont.arr 64 fun i => AV.bool (N i)), (1, 259, Cont.top), (9, 0, Cont.cell (AV.int IntKind.i64 k)), (9, 1, Cont.cell (AV.int IntKind.i64 u)), (9, 2, Cont.cell (AV.int IntKind.i64 i)), (9, 3, Cont.cell (AV.int IntKind.i64 j)), (9, 4, Cont.cell (AV.int IntKind.i64 t)), (9, 5, Cont.top)], 297, 127⟩) (by kernel_rfl) (by kernel_rfl) ?_ ?_
    · (simp only [All]; (repeat' apply And.intro) <;> (try intro _) <;> (try intro _) <;> (repeat' apply And.intro) <;> (try intro _) <;> (try intro _) <;> first | trivial | assumption | exact .inr trivial | exact .inr rfl | omega | rfl | exact ⟨_, rfl, rfl⟩ | exact ⟨rfl, rfl⟩ | exact ⟨fun _ => rfl, fun _ => rfl⟩ | (unfold maxLen; omega) | (unfold i64R; first | omega | decide) | decide)
    have e1 : (bif bif bif bif bif bif mayA F G then decide (1 ≤ W) else false then decide (W ≤ 64) else false then decide (1 ≤ H) else false then decide (H ≤ 64) else false then decide (1 ≤ K) else false then decide (K ≤ 16) else false) = mayS F G W H K := by
      unfold mayS inR
      simp only [cond_and, Bool.and_assoc]
    rw [e1]
    have hq : fO (k, u, i, j, t) = frm k u i j t := rfl
    have e0 : (bif !mayS F G W H K then true else !frm k u i j t) = !(mayS F G W H K && fO (k, u, i, j, t)) := by
      rw [hq]; cases mayS F G W H K <;> rfl
    have ee : chkF F G E W H K N team (k, u, i, j, t) = bif !(mayS F G W H K && fO (k, u, i, j, t)) then 1 else bif thF F G u != 0 then thF F G u else bif E (plF u).toNat != team then 11 else
      bif k == 0 then 0 else bif k == 2 then tgF F G E N team t else bif k == 3 && decide (t ≥ K) then 4 else
      bif decide (i ≥ W) || decide (j ≥ H) then 4 else 0 := rfl
    rw [ee]
    clear ee e1
    refine evC_seq ?_
    refine evC_go0 (dec := []) (ks := [(0, 1), (0, 3), (0, 5), (0, 6), (0, 49), (1, 0), (1, 64), (1, 128), (1, 192), (1, 193), (1, 194), (1, 195), (1, 259), (9, 0), (9, 1), (9, 2), (9, 3), (9, 4), (9, 5)]) (s' := ⟨[(0, 1, Cont.cell (AV.int IntKind.i64 team)), (0, 3, Cont.cell (AV.ptr 1 0)), (0, 5, Cont.cell (AV.ptr 9 0)), (0, 6, Cont.cell (AV.int IntKind.i64 0)), (0, 49, Cont.cell (AV.bool (bif !mayS F G W H K then true else !frm k u i j t))), (1, 0, Cont.arr 64 fun i => AV.int IntKind.i64 (F i)), (1, 64, Cont.arr 64 fun i => AV.bool (G i)), (1, 128, Cont.arr 64 fun i => AV.int IntKind.i64 (E i)), (1, 192, Cont.cell (AV.int IntKind.i64 W)), (1, 193, Cont.cell (AV.int IntKind.i64 H)), (1, 194, Cont.cell (AV.int IntKind.i64 K)), (1, 195, Cont.arr 64 fun i => AV.bool (N i)), (1, 259, Cont.top), (9, 0, Cont.cell (AV.int IntKind.i64 k)), (9, 1, Cont.cell (AV.int IntKind.i64 u)), (9, 2, Cont.cell (AV.int IntKind.i64 i)), (9, 3, Cont.cell (AV.int IntKind.i64 j)), (9, 4, Cont.cell (AV.int IntKind.i64 t)), (9, 5, Cont.top)], 353, 127⟩) (by kernel_rfl) (by kernel_rfl) ?_
    rw [e0]
    clear e0 hq
    refine evC_if (q := !(mayS F G W H K && fO (k, u, i, j, t))) (by kernel_rfl) (fun hc => ?_) (fun hc => ?_)
    · rw [hc]
      refine evC_go0 (dec := []) (ks := [(0, 1), (0, 3), (0, 5), (0, 6), (1, 0), (1, 64), (1, 128), (1, 192), (1, 193), (1, 194), (1, 195), (1, 259), (9, 0), (9, 1), (9, 2), (9, 3), (9, 4), (9, 5)]) (s' := ⟨[(0, 1, Cont.cell (AV.int IntKind.i64 team)), (0, 3, Cont.cell (AV.ptr 1 0)), (0, 5, Cont.cell (AV.ptr 9 0)), (0, 6, Cont.cell (AV.int IntKind.i64 1)), (1, 0, Cont.arr 64 fun i => AV.int IntKind.i64 (F i)), (1, 64, Cont.arr 64 fun i => AV.bool (G i)), (1, 128, Cont.arr 64 fun i => AV.int IntKind.i64 (E i)), (1, 192, Cont.cell (AV.int IntKind.i64 W)), (1, 193, Cont.cell (AV.int IntKind.i64 H)), (1, 194, Cont.cell (AV.int IntKind.i64 K)), (1, 195, Cont.arr 64 fun i => AV.bool (N i)), (1, 259, Cont.top), (9, 0, Cont.cell (AV.int IntKind.i64 k)), (9, 1, Cont.cell (AV.int IntKind.i64 u)), (9, 2, Cont.cell (AV.int IntKind.i64 i)), (9, 3, Cont.cell (AV.int IntKind.i64 j)), (9, 4, Cont.cell (AV.int IntKind.i64 t)), (9, 5, Cont.top)], 361, 127⟩) (by kernel_rfl) (by kernel_rfl) ?_
      refine evC_ret ?_
      refine then_ret ?_
      refine post_ret ?_
      refine ends_flat (vs := [AV.int IntKind.i64 1]) (Nat.zero_lt_succ _) (by kernel_rfl) (flat_of _ (by kernel_rfl)) rfl ?_
      rfl
    · rw [hc]
      have hb := (Bool.not_eq_false' _).mp hc
      rw [Bool.and_eq_true] at hb
      have hm := mayS_may hb.1
      have hr1 := (fO_rng hb.2).1
      have hr2 := (fO_rng hb.2).2.1
      have hk := fO_kind hb.2
      clear hc hb
      simp only at hr1 hr2 hk
      have hp := plF_range u
      have hp2 := plF_range t
      simp only [cond_false]
      refine evC_skip ?_
      refine then_normal ?_
      refine evC_seq ?_
      refine evC_go (dec := []) (ks := [(0, 1), (0, 3), (0, 5), (0, 6), (0, 8), (1, 0), (1, 64), (1, 128), (1, 192), (1, 193), (1, 194), (1, 195), (1, 259), (9, 0), (9, 1), (9, 2), (9, 3), (9, 4), (9, 5)]) (ps := [IsSc (fun i => AV.int IntKind.i64 (F i)) (fun i => AV.bool (G i)) (fun i => AV.int IntKind.i64 (E i)) fun i => AV.bool (N i), mayA F G = true, (0 : Int) ≤ u ∧ u < (67108864 : Int)]) (s' := ⟨[(0, 1, Cont.cell (AV.int IntKind.i64 team)), (0, 3, Cont.cell (AV.ptr 1 0)), (0, 5, Cont.cell (AV.ptr 9 0)), (0, 6, Cont.cell (AV.int IntKind.i64 0)), (0, 8, Cont.cell (AV.int IntKind.i64 (thF F G u))), (1, 0, Cont.arr 64 fun i => AV.int IntKind.i64 (F i)), (1, 64, Cont.arr 64 fun i => AV.bool (G i)), (1, 128, Cont.arr 64 fun i => AV.int IntKind.i64 (E i)), (1, 192, Cont.cell (AV.int IntKind.i64 W)), (1, 193, Cont.cell (AV.int IntKind.i64 H)), (1, 194, Cont.cell (AV.int IntKind.i64 K)), (1, 195, Cont.arr 64 fun i => AV.bool (N i)), (1, 259, Cont.top), (9, 0, Cont.cell (AV.int IntKind.i64 k)), (9, 1, Cont.cell (AV.int IntKind.i64 u)), (9, 2, Cont.cell (AV.int IntKind.i64 i)), (9, 3, Cont.cell (AV.int IntKind.i64 j)), (9, 4, Cont.cell (AV.int IntKind.i64 t)), (9, 5, Cont.top)], 393, 127⟩) (by kernel_rfl) (by kernel_rfl) ?_ ?_
      · (simp only [All]; (repeat' apply And.intro) <;> (try intro _) <;> (try intro _) <;> (repeat' apply And.intro) <;> (try intro _) <;> (try intro _) <;> first | trivial | assumption | exact .inr trivial | exact .inr rfl | omega | rfl | exact ⟨_, rfl, rfl⟩ | exact ⟨rfl, rfl⟩ | exact ⟨fun _ => rfl, fun _ => rfl⟩ | (unfold maxLen; omega) | (unfold i64R; first | omega | decide) | decide)
      refine evC_go0 (dec := []) (ks := [(0, 1), (0, 3), (0, 5), (0, 6), (0, 8), (0, 55), (1, 0), (1, 64), (1, 128), (1, 192), (1, 193), (1, 194), (1, 195), (1, 259), (9, 0), (9, 1), (9, 2), (9, 3), (9, 4), (9, 5)]) (s' := ⟨[(0, 1, Cont.cell (AV.int IntKind.i64 team)), (0, 3, Cont.cell (AV.ptr 1 0)), (0, 5, Cont.cell (AV.ptr 9 0)), (0, 6, Cont.cell (AV.int IntKind.i64 0)), (0, 8, Cont.cell (AV.int IntKind.i64 (thF F G u))), (0, 55, Cont.cell (AV.bool (thF F G u != 0))), (1, 0, Cont.arr 64 fun i => AV.int IntKind.i64 (F i)), (1, 64, Cont.arr 64 fun i => AV.bool (G i)), (1, 128, Cont.arr 64 fun i => AV.int IntKind.i64 (E i)), (1, 192, Cont.cell (AV.int IntKind.i64 W)), (1, 193, Cont.cell (AV.int IntKind.i64 H)), (1, 194, Cont.cell (AV.int IntKind.i64 K)), (1, 195, Cont.arr 64 fun i => AV.bool (N i)), (1, 259, Cont.top), (9, 0, Cont.cell (AV.int IntKind.i64 k)), (9, 1, Cont.cell (AV.int IntKind.i64 u)), (9, 2, Cont.cell (AV.int IntKind.i64 i)), (9, 3, Cont.cell (AV.int IntKind.i64 j)), (9, 4, Cont.cell (AV.int IntKind.i64 t)), (9, 5, Cont.top)], 409, 127⟩) (by kernel_rfl) (by kernel_rfl) ?_
      refine evC_if (q := thF F G u != 0) (by kernel_rfl) (fun hc => ?_) (fun hc => ?_)
      · rw [hc]
        refine evC_go0 (dec := []) (ks := [(0, 1), (0, 3), (0, 5), (0, 6), (1, 0), (1, 64), (1, 128), (1, 192), (1, 193), (1, 194), (1, 195), (1, 259), (9, 0), (9, 1), (9, 2), (9, 3), (9, 4), (9, 5)]) (s' := ⟨[(0, 1, Cont.cell (AV.int IntKind.i64 team)), (0, 3, Cont.cell (AV.ptr 1 0)), (0, 5, Cont.cell (AV.ptr 9 0)), (0, 6, Cont.cell (AV.int IntKind.i64 (thF F G u))), (1, 0, Cont.arr 64 fun i => AV.int IntKind.i64 (F i)), (1, 64, Cont.arr 64 fun i => AV.bool (G i)), (1, 128, Cont.arr 64 fun i => AV.int IntKind.i64 (E i)), (1, 192, Cont.cell (AV.int IntKind.i64 W)), (1, 193, Cont.cell (AV.int IntKind.i64 H)), (1, 194, Cont.cell (AV.int IntKind.i64 K)), (1, 195, Cont.arr 64 fun i => AV.bool (N i)), (1, 259, Cont.top), (9, 0, Cont.cell (AV.int IntKind.i64 k)), (9, 1, Cont.cell (AV.int IntKind.i64 u)), (9, 2, Cont.cell (AV.int IntKind.i64 i)), (9, 3, Cont.cell (AV.int IntKind.i64 j)), (9, 4, Cont.cell (AV.int IntKind.i64 t)), (9, 5, Cont.top)], 425, 127⟩) (by kernel_rfl) (by kernel_rfl) ?_
        refine evC_ret ?_
        refine then_ret ?_
        refine post_ret ?_
        refine ends_flat (vs := [AV.int IntKind.i64 (thF F G u)]) (Nat.zero_lt_succ _) (by kernel_rfl) (flat_of _ (by kernel_rfl)) rfl ?_
        rfl
      · rw [hc]
        clear hc
        simp only [cond_false]
        refine evC_skip ?_
        refine then_normal ?_
        refine evC_seq ?_
        refine evC_go (dec := []) (ks := [(0, 1), (0, 3), (0, 5), (0, 6), (0, 64), (1, 0), (1, 64), (1, 128), (1, 192), (1, 193), (1, 194), (1, 195), (1, 259), (9, 0), (9, 1), (9, 2), (9, 3), (9, 4), (9, 5)]) (ps := [(0 : Int) ≤ plF u, plF u < (↑(64 : Nat) : Int), (0 : Int) ≤ plF u, plF u < (↑(64 : Nat) : Int)]) (s' := ⟨[(0, 1, Cont.cell (AV.int IntKind.i64 team)), (0, 3, Cont.cell (AV.ptr 1 0)), (0, 5, Cont.cell (AV.ptr 9 0)), (0, 6, Cont.cell (AV.int IntKind.i64 0)), (0, 64, Cont.cell (AV.bool (E (Int.toNat (plF u)) != team))), (1, 0, Cont.arr 64 fun i => AV.int IntKind.i64 (F i)), (1, 64, Cont.arr 64 fun i => AV.bool (G i)), (1, 128, Cont.arr 64 fun i => AV.int IntKind.i64 (E i)), (1, 192, Cont.cell (AV.int IntKind.i64 W)), (1, 193, Cont.cell (AV.int IntKind.i64 H)), (1, 194, Cont.cell (AV.int IntKind.i64 K)), (1, 195, Cont.arr 64 fun i => AV.bool (N i)), (1, 259, Cont.top), (9, 0, Cont.cell (AV.int IntKind.i64 k)), (9, 1, Cont.cell (AV.int IntKind.i64 u)), (9, 2, Cont.cell (AV.int IntKind.i64 i)), (9, 3, Cont.cell (AV.int IntKind.i64 j)), (9, 4, Cont.cell (AV.int IntKind.i64 t)), (9, 5, Cont.top)], 473, 127⟩) (by kernel_rfl) (by kernel_rfl) ?_ ?_
        · (simp only [All]; (repeat' apply And.intro) <;> (try intro _) <;> (try intro _) <;> (repeat' apply And.intro) <;> (try intro _) <;> (try intro _) <;> first | trivial | assumption | exact .inr trivial | exact .inr rfl | omega | rfl | exact ⟨_, rfl, rfl⟩ | exact ⟨rfl, rfl⟩ | exact ⟨fun _ => rfl, fun _ => rfl⟩ | (unfold maxLen; omega) | (unfold i64R; first | omega | decide) | decide)
        refine evC_if (q := E (Int.toNat (plF u)) != team) (by kernel_rfl) (fun hc => ?_) (fun hc => ?_)
        · rw [hc]
          refine evC_go0 (dec := []) (ks := [(0, 1), (0, 3), (0, 5), (0, 6), (1, 0), (1, 64), (1, 128), (1, 192), (1, 193), (1, 194), (1, 195), (1, 259), (9, 0), (9, 1), (9, 2), (9, 3), (9, 4), (9, 5)]) (s' := ⟨[(0, 1, Cont.cell (AV.int IntKind.i64 team)), (0, 3, Cont.cell (AV.ptr 1 0)), (0, 5, Cont.cell (AV.ptr 9 0)), (0, 6, Cont.cell (AV.int IntKind.i64 11)), (1, 0, Cont.arr 64 fun i => AV.int IntKind.i64 (F i)), (1, 64, Cont.arr 64 fun i => AV.bool (G i)), (1, 128, Cont.arr 64 fun i => AV.int IntKind.i64 (E i)), (1, 192, Cont.cell (AV.int IntKind.i64 W)), (1, 193, Cont.cell (AV.int IntKind.i64 H)), (1, 194, Cont.cell (AV.int IntKind.i64 K)), (1, 195, Cont.arr 64 fun i => AV.bool (N i)), (1, 259, Cont.top), (9, 0, Cont.cell (AV.int IntKind.i64 k)), (9, 1, Cont.cell (AV.int IntKind.i64 u)), (9, 2, Cont.cell (AV.int IntKind.i64 i)), (9, 3, Cont.cell (AV.int IntKind.i64 j)), (9, 4, Cont.cell (AV.int IntKind.i64 t)), (9, 5, Cont.top)], 481, 127⟩) (by kernel_rfl) (by kernel_rfl) ?_
          refine evC_ret ?_
          refine then_ret ?_
          refine post_ret ?_
          refine ends_flat (vs := [AV.int IntKind.i64 11]) (Nat.zero_lt_succ _) (by kernel_rfl) (flat_of _ (by kernel_rfl)) rfl ?_
          rfl
        · rw [hc]
          clear hc
          simp only [cond_false]
          have et : (bif k == 0 then 0 else bif k == 2 then tgF F G E N team t else bif k == 3 && decide (t ≥ K) then 4 else bif decide (i ≥ W) || decide (j ≥ H) then 4 else 0) =
            bif (bif (bif bif k == 1 then true else k == 3 then true else k == 4) then (bif decide (i ≥ W) then true else decide (j ≥ H)) else false) then 4 else bif (bif k == 3 then decide (t ≥ K) else false) then 4 else bif k != 2 then 0 else tgF F G E N team t := by
            rcases hk with rfl | rfl | rfl | rfl | rfl <;> cases decide (i ≥ W) <;> cases decide (j ≥ H) <;> cases decide (t ≥ K) <;> rfl
          rw [et]
          clear et
          refine evC_skip ?_
          refine then_normal ?_
          refine evC_seq ?_
          refine evC_go0 (dec := []) (ks := [(0, 1), (0, 3), (0, 5), (0, 6), (0, 91), (1, 0), (1, 64), (1, 128), (1, 192), (1, 193), (1, 194), (1, 195), (1, 259), (9, 0), (9, 1), (9, 2), (9, 3), (9, 4), (9, 5)]) (s' := ⟨[(0, 1, Cont.cell (AV.int IntKind.i64 team)), (0, 3, Cont.cell (AV.ptr 1 0)), (0, 5, Cont.cell (AV.ptr 9 0)), (0, 6, Cont.cell (AV.int IntKind.i64 0)), (0, 91, Cont.cell (AV.bool (bif bif bif k == 1 then true else k == 3 then true else k == 4 then bif decide (i ≥ W) then true else decide (j ≥ H) else false))), (1, 0, Cont.arr 64 fun i => AV.int IntKind.i64 (F i)), (1, 64, Cont.arr 64 fun i => AV.bool (G i)), (1, 128, Cont.arr 64 fun i => AV.int IntKind.i64 (E i)), (1, 192, Cont.cell (AV.int IntKind.i64 W)), (1, 193, Cont.cell (AV.int IntKind.i64 H)), (1, 194, Cont.cell (AV.int IntKind.i64 K)), (1, 195, Cont.arr 64 fun i => AV.bool (N i)), (1, 259, Cont.top), (9, 0, Cont.cell (AV.int IntKind.i64 k)), (9, 1, Cont.cell (AV.int IntKind.i64 u)), (9, 2, Cont.cell (AV.int IntKind.i64 i)), (9, 3, Cont.cell (AV.int IntKind.i64 j)), (9, 4, Cont.cell (AV.int IntKind.i64 t)), (9, 5, Cont.top)], 689, 127⟩) (by kernel_rfl) (by kernel_rfl) ?_
          refine evC_if (q := bif bif bif k == 1 then true else k == 3 then true else k == 4 then bif decide (i ≥ W) then true else decide (j ≥ H) else false) (by kernel_rfl) (fun hc => ?_) (fun hc => ?_)
          · rw [hc]
            refine evC_go0 (dec := []) (ks := [(0, 1), (0, 3), (0, 5), (0, 6), (1, 0), (1, 64), (1, 128), (1, 192), (1, 193), (1, 194), (1, 195), (1, 259), (9, 0), (9, 1), (9, 2), (9, 3), (9, 4), (9, 5)]) (s' := ⟨[(0, 1, Cont.cell (AV.int IntKind.i64 team)), (0, 3, Cont.cell (AV.ptr 1 0)), (0, 5, Cont.cell (AV.ptr 9 0)), (0, 6, Cont.cell (AV.int IntKind.i64 4)), (1, 0, Cont.arr 64 fun i => AV.int IntKind.i64 (F i)), (1, 64, Cont.arr 64 fun i => AV.bool (G i)), (1, 128, Cont.arr 64 fun i => AV.int IntKind.i64 (E i)), (1, 192, Cont.cell (AV.int IntKind.i64 W)), (1, 193, Cont.cell (AV.int IntKind.i64 H)), (1, 194, Cont.cell (AV.int IntKind.i64 K)), (1, 195, Cont.arr 64 fun i => AV.bool (N i)), (1, 259, Cont.top), (9, 0, Cont.cell (AV.int IntKind.i64 k)), (9, 1, Cont.cell (AV.int IntKind.i64 u)), (9, 2, Cont.cell (AV.int IntKind.i64 i)), (9, 3, Cont.cell (AV.int IntKind.i64 j)), (9, 4, Cont.cell (AV.int IntKind.i64 t)), (9, 5, Cont.top)], 697, 127⟩) (by kernel_rfl) (by kernel_rfl) ?_
            refine evC_ret ?_
            refine then_ret ?_
            refine post_ret ?_
            refine ends_flat (vs := [AV.int IntKind.i64 4]) (Nat.zero_lt_succ _) (by kernel_rfl) (flat_of _ (by kernel_rfl)) rfl ?_
            rfl
          · rw [hc]
            clear hc
            simp only [cond_false]
            refine evC_skip ?_
            refine then_normal ?_
            refine evC_seq ?_
            refine evC_go0 (dec := []) (ks := [(0, 1), (0, 3), (0, 5), (0, 6), (0, 101), (1, 0), (1, 64), (1, 128), (1, 192), (1, 193), (1, 194), (1, 195), (1, 259), (9, 0), (9, 1), (9, 2), (9, 3), (9, 4), (9, 5)]) (s' := ⟨[(0, 1, Cont.cell (AV.int IntKind.i64 team)), (0, 3, Cont.cell (AV.ptr 1 0)), (0, 5, Cont.cell (AV.ptr 9 0)), (0, 6, Cont.cell (AV.int IntKind.i64 0)), (0, 101, Cont.cell (AV.bool (bif k == 3 then decide (t ≥ K) else false))), (1, 0, Cont.arr 64 fun i => AV.int IntKind.i64 (F i)), (1, 64, Cont.arr 64 fun i => AV.bool (G i)), (1, 128, Cont.arr 64 fun i => AV.int IntKind.i64 (E i)), (1, 192, Cont.cell (AV.int IntKind.i64 W)), (1, 193, Cont.cell (AV.int IntKind.i64 H)), (1, 194, Cont.cell (AV.int IntKind.i64 K)), (1, 195, Cont.arr 64 fun i => AV.bool (N i)), (1, 259, Cont.top), (9, 0, Cont.cell (AV.int IntKind.i64 k)), (9, 1, Cont.cell (AV.int IntKind.i64 u)), (9, 2, Cont.cell (AV.int IntKind.i64 i)), (9, 3, Cont.cell (AV.int IntKind.i64 j)), (9, 4, Cont.cell (AV.int IntKind.i64 t)), (9, 5, Cont.top)], 769, 127⟩) (by kernel_rfl) (by kernel_rfl) ?_
            refine evC_if (q := bif k == 3 then decide (t ≥ K) else false) (by kernel_rfl) (fun hc => ?_) (fun hc => ?_)
            · rw [hc]
              refine evC_go0 (dec := []) (ks := [(0, 1), (0, 3), (0, 5), (0, 6), (1, 0), (1, 64), (1, 128), (1, 192), (1, 193), (1, 194), (1, 195), (1, 259), (9, 0), (9, 1), (9, 2), (9, 3), (9, 4), (9, 5)]) (s' := ⟨[(0, 1, Cont.cell (AV.int IntKind.i64 team)), (0, 3, Cont.cell (AV.ptr 1 0)), (0, 5, Cont.cell (AV.ptr 9 0)), (0, 6, Cont.cell (AV.int IntKind.i64 4)), (1, 0, Cont.arr 64 fun i => AV.int IntKind.i64 (F i)), (1, 64, Cont.arr 64 fun i => AV.bool (G i)), (1, 128, Cont.arr 64 fun i => AV.int IntKind.i64 (E i)), (1, 192, Cont.cell (AV.int IntKind.i64 W)), (1, 193, Cont.cell (AV.int IntKind.i64 H)), (1, 194, Cont.cell (AV.int IntKind.i64 K)), (1, 195, Cont.arr 64 fun i => AV.bool (N i)), (1, 259, Cont.top), (9, 0, Cont.cell (AV.int IntKind.i64 k)), (9, 1, Cont.cell (AV.int IntKind.i64 u)), (9, 2, Cont.cell (AV.int IntKind.i64 i)), (9, 3, Cont.cell (AV.int IntKind.i64 j)), (9, 4, Cont.cell (AV.int IntKind.i64 t)), (9, 5, Cont.top)], 777, 127⟩) (by kernel_rfl) (by kernel_rfl) ?_
              refine evC_ret ?_
              refine then_ret ?_
              refine post_ret ?_
              refine ends_flat (vs := [AV.int IntKind.i64 4]) (Nat.zero_lt_succ _) (by kernel_rfl) (flat_of _ (by kernel_rfl)) rfl ?_
              rfl
            · rw [hc]
              clear hc
              simp only [cond_false]
              refine evC_skip ?_
              refine then_normal ?_
              refine evC_seq ?_
              refine evC_go0 (dec := []) (ks := [(0, 1), (0, 3), (0, 5), (0, 6), (0, 104), (1, 0), (1, 64), (1, 128), (1, 192), (1, 193), (1, 194), (1, 195), (1, 259), (9, 0), (9, 1), (9, 2), (9, 3), (9, 4), (9, 5)]) (s' := ⟨[(0, 1, Cont.cell (AV.int IntKind.i64 team)), (0, 3, Cont.cell (AV.ptr 1 0)), (0, 5, Cont.cell (AV.ptr 9 0)), (0, 6, Cont.cell (AV.int IntKind.i64 0)), (0, 104, Cont.cell (AV.bool (k != 2))), (1, 0, Cont.arr 64 fun i => AV.int IntKind.i64 (F i)), (1, 64, Cont.arr 64 fun i => AV.bool (G i)), (1, 128, Cont.arr 64 fun i => AV.int IntKind.i64 (E i)), (1, 192, Cont.cell (AV.int IntKind.i64 W)), (1, 193, Cont.cell (AV.int IntKind.i64 H)), (1, 194, Cont.cell (AV.int IntKind.i64 K)), (1, 195, Cont.arr 64 fun i => AV.bool (N i)), (1, 259, Cont.top), (9, 0, Cont.cell (AV.int IntKind.i64 k)), (9, 1, Cont.cell (AV.int IntKind.i64 u)), (9, 2, Cont.cell (AV.int IntKind.i64 i)), (9, 3, Cont.cell (AV.int IntKind.i64 j)), (9, 4, Cont.cell (AV.int IntKind.i64 t)), (9, 5, Cont.top)], 793, 127⟩) (by kernel_rfl) (by kernel_rfl) ?_
              refine evC_if (q := k != 2) (by kernel_rfl) (fun hc => ?_) (fun hc => ?_)
              · rw [hc]
                refine evC_go0 (dec := []) (ks := [(0, 1), (0, 3), (0, 5), (0, 6), (1, 0), (1, 64), (1, 128), (1, 192), (1, 193), (1, 194), (1, 195), (1, 259), (9, 0), (9, 1), (9, 2), (9, 3), (9, 4), (9, 5)]) (s' := ⟨[(0, 1, Cont.cell (AV.int IntKind.i64 team)), (0, 3, Cont.cell (AV.ptr 1 0)), (0, 5, Cont.cell (AV.ptr 9 0)), (0, 6, Cont.cell (AV.int IntKind.i64 0)), (1, 0, Cont.arr 64 fun i => AV.int IntKind.i64 (F i)), (1, 64, Cont.arr 64 fun i => AV.bool (G i)), (1, 128, Cont.arr 64 fun i => AV.int IntKind.i64 (E i)), (1, 192, Cont.cell (AV.int IntKind.i64 W)), (1, 193, Cont.cell (AV.int IntKind.i64 H)), (1, 194, Cont.cell (AV.int IntKind.i64 K)), (1, 195, Cont.arr 64 fun i => AV.bool (N i)), (1, 259, Cont.top), (9, 0, Cont.cell (AV.int IntKind.i64 k)), (9, 1, Cont.cell (AV.int IntKind.i64 u)), (9, 2, Cont.cell (AV.int IntKind.i64 i)), (9, 3, Cont.cell (AV.int IntKind.i64 j)), (9, 4, Cont.cell (AV.int IntKind.i64 t)), (9, 5, Cont.top)], 801, 127⟩) (by kernel_rfl) (by kernel_rfl) ?_
                refine evC_ret ?_
                refine then_ret ?_
                refine post_ret ?_
                refine ends_flat (vs := [AV.int IntKind.i64 0]) (Nat.zero_lt_succ _) (by kernel_rfl) (flat_of _ (by kernel_rfl)) rfl ?_
                rfl
              · rw [hc]
                clear hc
                simp only [cond_false]
                have et : tgF F G E N team t = bif thF F G t != 0 then thF F G t else bif E (plF t).toNat == team then 11 else bif !N (plF t).toNat then 13 else 0 := rfl
                rw [et]
                clear et
                refine evC_skip ?_
                refine then_normal ?_
                refine evC_seq ?_
                refine evC_go (dec := []) (ks := [(0, 1), (0, 3), (0, 5), (0, 6), (0, 9), (1, 0), (1, 64), (1, 128), (1, 192), (1, 193), (1, 194), (1, 195), (1, 259), (9, 0), (9, 1), (9, 2), (9, 3), (9, 4), (9, 5)]) (ps := [IsSc (fun i => AV.int IntKind.i64 (F i)) (fun i => AV.bool (G i)) (fun i => AV.int IntKind.i64 (E i)) fun i => AV.bool (N i), mayA F G = true, (0 : Int) ≤ t ∧ t < (67108864 : Int)]) (s' := ⟨[(0, 1, Cont.cell (AV.int IntKind.i64 team)), (0, 3, Cont.cell (AV.ptr 1 0)), (0, 5, Cont.cell (AV.ptr 9 0)), (0, 6, Cont.cell (AV.int IntKind.i64 0)), (0, 9, Cont.cell (AV.int IntKind.i64 (thF F G t))), (1, 0, Cont.arr 64 fun i => AV.int IntKind.i64 (F i)), (1, 64, Cont.arr 64 fun i => AV.bool (G i)), (1, 128, Cont.arr 64 fun i => AV.int IntKind.i64 (E i)), (1, 192, Cont.cell (AV.int IntKind.i64 W)), (1, 193, Cont.cell (AV.int IntKind.i64 H)), (1, 194, Cont.cell (AV.int IntKind.i64 K)), (1, 195, Cont.arr 64 fun i => AV.bool (N i)), (1, 259, Cont.top), (9, 0, Cont.cell (AV.int IntKind.i64 k)), (9, 1, Cont.cell (AV.int IntKind.i64 u)), (9, 2, Cont.cell (AV.int IntKind.i64 i)), (9, 3, Cont.cell (AV.int IntKind.i64 j)), (9, 4, Cont.cell (AV.int IntKind.i64 t)), (9, 5, Cont.top)], 833, 127⟩) (by kernel_rfl) (by kernel_rfl) ?_ ?_
                · (simp only [All]; (repeat' apply And.intro) <;> (try intro _) <;> (try intro _) <;> (repeat' apply And.intro) <;> (try intro _) <;> (try intro _) <;> first | trivial | assumption | exact .inr trivial | exact .inr rfl | omega | rfl | exact ⟨_, rfl, rfl⟩ | exact ⟨rfl, rfl⟩ | exact ⟨fun _ => rfl, fun _ => rfl⟩ | (unfold maxLen; omega) | (unfold i64R; first | omega | decide) | decide)
                refine evC_go0 (dec := []) (ks := [(0, 1), (0, 3), (0, 5), (0, 6), (0, 9), (0, 110), (1, 0), (1, 64), (1, 128), (1, 192), (1, 193), (1, 194), (1, 195), (1, 259), (9, 0), (9, 1), (9, 2), (9, 3), (9, 4), (9, 5)]) (s' := ⟨[(0, 1, Cont.cell (AV.int IntKind.i64 team)), (0, 3, Cont.cell (AV.ptr 1 0)), (0, 5, Cont.cell (AV.ptr 9 0)), (0, 6, Cont.cell (AV.int IntKind.i64 0)), (0, 9, Cont.cell (AV.int IntKind.i64 (thF F G t))), (0, 110, Cont.cell (AV.bool (thF F G t != 0))), (1, 0, Cont.arr 64 fun i => AV.int IntKind.i64 (F i)), (1, 64, Cont.arr 64 fun i => AV.bool (G i)), (1, 128, Cont.arr 64 fun i => AV.int IntKind.i64 (E i)), (1, 192, Cont.cell (AV.int IntKind.i64 W)), (1, 193, Cont.cell (AV.int IntKind.i64 H)), (1, 194, Cont.cell (AV.int IntKind.i64 K)), (1, 195, Cont.arr 64 fun i => AV.bool (N i)), (1, 259, Cont.top), (9, 0, Cont.cell (AV.int IntKind.i64 k)), (9, 1, Cont.cell (AV.int IntKind.i64 u)), (9, 2, Cont.cell (AV.int IntKind.i64 i)), (9, 3, Cont.cell (AV.int IntKind.i64 j)), (9, 4, Cont.cell (AV.int IntKind.i64 t)), (9, 5, Cont.top)], 849, 127⟩) (by kernel_rfl) (by kernel_rfl) ?_
                refine evC_if (q := thF F G t != 0) (by kernel_rfl) (fun hc => ?_) (fun hc => ?_)
                · rw [hc]
                  refine evC_go0 (dec := []) (ks := [(0, 1), (0, 3), (0, 5), (0, 6), (1, 0), (1, 64), (1, 128), (1, 192), (1, 193), (1, 194), (1, 195), (1, 259), (9, 0), (9, 1), (9, 2), (9, 3), (9, 4), (9, 5)]) (s' := ⟨[(0, 1, Cont.cell (AV.int IntKind.i64 team)), (0, 3, Cont.cell (AV.ptr 1 0)), (0, 5, Cont.cell (AV.ptr 9 0)), (0, 6, Cont.cell (AV.int IntKind.i64 (thF F G t))), (1, 0, Cont.arr 64 fun i => AV.int IntKind.i64 (F i)), (1, 64, Cont.arr 64 fun i => AV.bool (G i)), (1, 128, Cont.arr 64 fun i => AV.int IntKind.i64 (E i)), (1, 192, Cont.cell (AV.int IntKind.i64 W)), (1, 193, Cont.cell (AV.int IntKind.i64 H)), (1, 194, Cont.cell (AV.int IntKind.i64 K)), (1, 195, Cont.arr 64 fun i => AV.bool (N i)), (1, 259, Cont.top), (9, 0, Cont.cell (AV.int IntKind.i64 k)), (9, 1, Cont.cell (AV.int IntKind.i64 u)), (9, 2, Cont.cell (AV.int IntKind.i64 i)), (9, 3, Cont.cell (AV.int IntKind.i64 j)), (9, 4, Cont.cell (AV.int IntKind.i64 t)), (9, 5, Cont.top)], 865, 127⟩) (by kernel_rfl) (by kernel_rfl) ?_
                  refine evC_ret ?_
                  refine then_ret ?_
                  refine post_ret ?_
                  refine ends_flat (vs := [AV.int IntKind.i64 (thF F G t)]) (Nat.zero_lt_succ _) (by kernel_rfl) (flat_of _ (by kernel_rfl)) rfl ?_
                  rfl
                · rw [hc]
                  clear hc
                  simp only [cond_false]
                  refine evC_skip ?_
                  refine then_normal ?_
                  refine evC_seq ?_
                  refine evC_go (dec := []) (ks := [(0, 3), (0, 5), (0, 6), (0, 119), (1, 0), (1, 64), (1, 128), (1, 192), (1, 193), (1, 194), (1, 195), (1, 259), (9, 0), (9, 1), (9, 2), (9, 3), (9, 4), (9, 5)]) (ps := [(0 : Int) ≤ plF t, plF t < (↑(64 : Nat) : Int), (0 : Int) ≤ plF t, plF t < (↑(64 : Nat) : Int)]) (s' := ⟨[(0, 3, Cont.cell (AV.ptr 1 0)), (0, 5, Cont.cell (AV.ptr 9 0)), (0, 6, Cont.cell (AV.int IntKind.i64 0)), (0, 119, Cont.cell (AV.bool (E (Int.toNat (plF t)) == team))), (1, 0, Cont.arr 64 fun i => AV.int IntKind.i64 (F i)), (1, 64, Cont.arr 64 fun i => AV.bool (G i)), (1, 128, Cont.arr 64 fun i => AV.int IntKind.i64 (E i)), (1, 192, Cont.cell (AV.int IntKind.i64 W)), (1, 193, Cont.cell (AV.int IntKind.i64 H)), (1, 194, Cont.cell (AV.int IntKind.i64 K)), (1, 195, Cont.arr 64 fun i => AV.bool (N i)), (1, 259, Cont.top), (9, 0, Cont.cell (AV.int IntKind.i64 k)), (9, 1, Cont.cell (AV.int IntKind.i64 u)), (9, 2, Cont.cell (AV.int IntKind.i64 i)), (9, 3, Cont.cell (AV.int IntKind.i64 j)), (9, 4, Cont.cell (AV.int IntKind.i64 t)), (9, 5, Cont.top)], 913, 127⟩) (by kernel_rfl) (by kernel_rfl) ?_ ?_
                  · (simp only [All]; (repeat' apply And.intro) <;> (try intro _) <;> (try intro _) <;> (repeat' apply And.intro) <;> (try intro _) <;> (try intro _) <;> first | trivial | assumption | exact .inr trivial | exact .inr rfl | omega | rfl | exact ⟨_, rfl, rfl⟩ | exact ⟨rfl, rfl⟩ | exact ⟨fun _ => rfl, fun _ => rfl⟩ | (unfold maxLen; omega) | (unfold i64R; first | omega | decide) | decide)
                  refine evC_if (q := E (Int.toNat (plF t)) == team) (by kernel_rfl) (fun hc => ?_) (fun hc => ?_)
                  · rw [hc]
                    refine evC_go0 (dec := []) (ks := [(0, 3), (0, 5), (0, 6), (1, 0), (1, 64), (1, 128), (1, 192), (1, 193), (1, 194), (1, 195), (1, 259), (9, 0), (9, 1), (9, 2), (9, 3), (9, 4), (9, 5)]) (s' := ⟨[(0, 3, Cont.cell (AV.ptr 1 0)), (0, 5, Cont.cell (AV.ptr 9 0)), (0, 6, Cont.cell (AV.int IntKind.i64 11)), (1, 0, Cont.arr 64 fun i => AV.int IntKind.i64 (F i)), (1, 64, Cont.arr 64 fun i => AV.bool (G i)), (1, 128, Cont.arr 64 fun i => AV.int IntKind.i64 (E i)), (1, 192, Cont.cell (AV.int IntKind.i64 W)), (1, 193, Cont.cell (AV.int IntKind.i64 H)), (1, 194, Cont.cell (AV.int IntKind.i64 K)), (1, 195, Cont.arr 64 fun i => AV.bool (N i)), (1, 259, Cont.top), (9, 0, Cont.cell (AV.int IntKind.i64 k)), (9, 1, Cont.cell (AV.int IntKind.i64 u)), (9, 2, Cont.cell (AV.int IntKind.i64 i)), (9, 3, Cont.cell (AV.int IntKind.i64 j)), (9, 4, Cont.cell (AV.int IntKind.i64 t)), (9, 5, Cont.top)], 921, 127⟩) (by kernel_rfl) (by kernel_rfl) ?_
                    refine evC_ret ?_
                    refine then_ret ?_
                    refine post_ret ?_
                    refine ends_flat (vs := [AV.int IntKind.i64 11]) (Nat.zero_lt_succ _) (by kernel_rfl) (flat_of _ (by kernel_rfl)) rfl ?_
                    rfl
                  · rw [hc]
                    clear hc
                    simp only [cond_false]
                    refine evC_skip ?_
                    refine then_normal ?_
                    refine evC_seq ?_
                    refine evC_go (dec := []) (ks := [(0, 6), (0, 126)]) (ps := [(0 : Int) ≤ plF t, plF t < (↑(64 : Nat) : Int), (0 : Int) ≤ plF t, plF t < (↑(64 : Nat) : Int)]) (s' := ⟨[(0, 6, Cont.cell (AV.int IntKind.i64 0)), (0, 126, Cont.cell (AV.bool !N (Int.toNat (plF t))))], 969, 127⟩) (by kernel_rfl) (by kernel_rfl) ?_ ?_
                    · (simp only [All]; (repeat' apply And.intro) <;> (try intro _) <;> (try intro _) <;> (repeat' apply And.intro) <;> (try intro _) <;> (try intro _) <;> first | trivial | assumption | exact .inr trivial | exact .inr rfl | omega | rfl | exact ⟨_, rfl, rfl⟩ | exact ⟨rfl, rfl⟩ | exact ⟨fun _ => rfl, fun _ => rfl⟩ | (unfold maxLen; omega) | (unfold i64R; first | omega | decide) | decide)
                    refine evC_if (q := !N (Int.toNat (plF t))) (by kernel_rfl) (fun hc => ?_) (fun hc => ?_)
                    · rw [hc]
                      refine evC_go0 (dec := []) (ks := [(0, 6)]) (s' := ⟨[(0, 6, Cont.cell (AV.int IntKind.i64 13))], 977, 127⟩) (by kernel_rfl) (by kernel_rfl) ?_
                      refine evC_ret ?_
                      refine then_ret ?_
                      refine post_ret ?_
                      refine ends_flat (vs := [AV.int IntKind.i64 13]) (Nat.zero_lt_succ _) (by kernel_rfl) (flat_of _ (by kernel_rfl)) rfl ?_
                      rfl
                    · rw [hc]
                      refine evC_skip ?_
                      refine then_normal ?_
                      refine evC_go0 (dec := []) (ks := [(0, 6)]) (s' := ⟨[(0, 6, Cont.cell (AV.int IntKind.i64 0))], 977, 127⟩) (by kernel_rfl) (by kernel_rfl) ?_
                      refine evC_ret ?_
                      refine post_ret ?_
                      refine ends_flat (vs := [AV.int IntKind.i64 0]) (Nat.zero_lt_succ _) (by kernel_rfl) (flat_of _ (by kernel_rfl)) rfl ?_
                      rfl
  · cases e
end Go.Eng.S22
