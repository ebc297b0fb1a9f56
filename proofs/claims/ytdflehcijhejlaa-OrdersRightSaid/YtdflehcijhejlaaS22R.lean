/- Seat 22: the law of what may be given, walked. -/
import Derived.Test.YtdflehcijhejlaaEngX
import Derived.Test.YtdflehcijhejlaaS22H
import Derived.Test.YtdflehcijhejlaaS22I
set_option linter.unusedSimpArgs false
set_option linter.unusedVariables false
namespace Go.Eng.S22
open Go.Proofs Go.IntWalk
set_option maxRecDepth 10000

theorem th_zero {F : Nat → Int} {G : Nat → Bool} {id : Int} (h : (thF F G id != 0) = false) : G (plF id).toNat = true ∧ id / 64 = F (plF id).toNat - 1 := by
  have e := id_split id
  have hp := plF_range id
  unfold thF at h
  cases h1 : givenF F id with
  | false => rw [h1] at h; cases h
  | true =>
    rw [h1] at h
    cases h2 : (id == 64 * (F (plF id).toNat - 1) + plF id) with
    | false => rw [h2] at h; cases h
    | true =>
      rw [h2] at h
      cases h3 : G (plF id).toNat with
      | false => rw [h3] at h; cases h
      | true =>
        have h2 : id = 64 * (F (plF id).toNat - 1) + plF id := by simpa using h2
        exact ⟨rfl, by omega⟩
theorem chk_zero {F : Nat → Int} {G : Nat → Bool} {E : Nat → Int} {W H K : Int} {N : Nat → Bool} {team : Int} {q : Od} (h : chkF F G E W H K N team q = 0) :
    (mayS F G W H K = true ∧ fO q = true) ∧ (thF F G q.2.1 != 0) = false ∧ (E (plF q.2.1).toNat != team) = false ∧ (q.1 = 2 → tgF F G E N team q.2.2.2.2 = 0) := by
  unfold chkF at h
  cases h1 : (mayS F G W H K && fO q) with
  | false => rw [h1] at h; cases h
  | true =>
    rw [h1] at h
    simp only [Bool.not_true, cond_false] at h
    cases h2 : (thF F G q.2.1 != 0) with
    | true =>
      rw [h2] at h
      simp only [cond_true] at h
      rw [h] at h2; cases h2
    | false =>
      rw [h2] at h
      simp only [cond_false] at h
      cases h3 : (E (plF q.2.1).toNat != team) with
      | true => rw [h3] at h; cases h
      | false =>
        rw [h3] at h
        simp only [cond_false] at h
        refine ⟨by simpa using h1, rfl, rfl, fun hk => ?_⟩
        rw [hk] at h
        exact h
theorem tg_zero {F : Nat → Int} {G : Nat → Bool} {E : Nat → Int} {N : Nat → Bool} {team id : Int} (h : tgF F G E N team id = 0) : (thF F G id != 0) = false ∧ (E (plF id).toNat == team) = false ∧ N (plF id).toNat = true := by
  unfold tgF at h
  cases h2 : (thF F G id != 0) with
  | true =>
    rw [h2] at h
    simp only [cond_true] at h
    rw [h] at h2; cases h2
  | false =>
    rw [h2] at h
    simp only [cond_false] at h
    cases h3 : (E (plF id).toNat == team) with
    | true => rw [h3] at h; cases h
    | false =>
      rw [h3] at h
      cases h4 : N (plF id).toNat with
      | false => rw [h4] at h; cases h
      | true => exact ⟨rfl, rfl, rfl⟩
theorem chk_stop {F : Nat → Int} {G : Nat → Bool} {E : Nat → Int} {W H K : Int} {N : Nat → Bool} {team : Int} {q : Od} (h : chkF F G E W H K N team q = 0) : chkF F G E W H K N team (0, q.2.1, 0, 0, 0) = 0 := by
  obtain ⟨⟨h1, h2⟩, h3, h4, _⟩ := chk_zero h
  have hr := (fO_rng h2).1
  have hf : fO (0, q.2.1, 0, 0, 0) = true := by
    have e1 : decide (0 ≤ q.2.1) = true := decide_eq_true hr.1
    have e2 : decide (q.2.1 < 67108864) = true := decide_eq_true hr.2
    show (decide (0 ≤ q.2.1) && decide (q.2.1 < 67108864) && true && true && true && true) = true
    rw [e1, e2]; rfl
  unfold chkF
  rw [h1, hf]
  simp only [h3, h4]
  rfl
theorem law_right_ok : SpecOK Try.prog 8 sLawC := by
  refine spec_own (by kernel_rfl) T_ok (sget_cons check_ok (sget_cons awake_ok sget_nil)) Try.func8 rfl rfl fun args hr nb out e => ?_
  unfold sLawC at e
  split at e
  · rename_i f g s W H K n team k u i j t
    injection e with e; subst e
    refine ⟨(fun _ h => nomatch h), true, [sc (fun i => iv (f i)) (fun i => bv (g i)) (fun i => iv (s i)) W H K (fun i => bv (n i)), .int .i64 team, od k u i j t], rfl, fun hs => ?_⟩
    have hA := hs _ List.mem_cons_self
    rw [hA.eq]
    generalize (fun i => iv (f i)) = F, (fun i => bv (g i)) = G, (fun i => iv (s i)) = E, (fun i => bv (n i)) = N
    clear hs hA
    refine ⟨.cons _ _ _ _ (.same _ _ (sc_flat F G E W H K N).has) (.cons _ _ _ _ (.same _ _ (.int _ _)) (.cons _ _ _ _ (.same _ _ (od_flat _ _ _ _ _).has) .nil)), ?_⟩
    have hA := isSc F G E N
    unfold sc od
    refine evC_go0 (dec := []) (ks := [(0, 1), (0, 3), (0, 5), (0, 6), (1, 0), (1, 64), (1, 128), (1, 192), (1, 193), (1, 194), (1, 195), (1, 259), (9, 0), (9, 1), (9, 2), (9, 3), (9, 4), (9, 5)]) (s' := ⟨[(0, 1, Cont.cell (AV.int IntKind.i64 team)), (0, 3, Cont.cell (AV.ptr 1 0)), (0, 5, Cont.cell (AV.ptr 9 0)), (0, 6, Cont.cell (AV.bool false)), (1, 0, Cont.arr 64 fun i => AV.int IntKind.i64 (F i)), (1, 64, Cont.arr 64 fun i => AV.bool (G i)), (1, 128, Cont.arr 64 fun i => AV.int IntKind.i64 (E i)), (1, 192, Cont.cell (AV.int IntKind.i64 W)), (1, 193, Cont.cell (AV.int IntKind.i64 H)), (1, 194, Cont.cell (AV.int IntKind.i64 K)), (1, 195, Cont.arr 64 fun i => AV.bool (N i)), (1, 259, Cont.top), (9, 0, Cont.cell (AV.int IntKind.i64 k)), (9, 1, Cont.cell (AV.int IntKind.i64 u)), (9, 2, Cont.cell (AV.int IntKind.i64 i)), (9, 3, Cont.cell (AV.int IntKind.i64 j)), (9, 4, Cont.cell (AV.int IntKind.i64 t)), (9, 5, Cont.top)], 25, 99⟩) (by kernel_rfl) (by kernel_rfl) ?_
    refine evC_go (dec := []) (ks := [(0, 1), (0, 3), (0, 5), (0, 6), (0, 7), (1, 0), (1, 64), (1, 128), (1, 192), (1, 193), (1, 194), (1, 195), (1, 259), (9, 0), (9, 1), (9, 2), (9, 3), (9, 4), (9, 5)]) (ps := [IsSc (fun i => AV.int IntKind.i64 (F i)) (fun i => AV.bool (G i)) (fun i => AV.int IntKind.i64 (E i)) fun i => AV.bool (N i)]) (s' := ⟨[(0, 1, Cont.cell (AV.int IntKind.i64 team)), (0, 3, Cont.cell (AV.ptr 1 0)), (0, 5, Cont.cell (AV.ptr 9 0)), (0, 6, Cont.cell (AV.bool false)), (0, 7, Cont.cell (AV.int IntKind.i64 (chkF F G E W H K N team (k, u, i, j, t)))), (1, 0, Cont.arr 64 fun i => AV.int IntKind.i64 (F i)), (1, 64, Cont.arr 64 fun i => AV.bool (G i)), (1, 128, Cont.arr 64 fun i => AV.int IntKind.i64 (E i)), (1, 192, Cont.cell (AV.int IntKind.i64 W)), (1, 193, Cont.cell (AV.int IntKind.i64 H)), (1, 194, Cont.cell (AV.int IntKind.i64 K)), (1, 195, Cont.arr 64 fun i => AV.bool (N i)), (1, 259, Cont.top), (9, 0, Cont.cell (AV.int IntKind.i64 k)), (9, 1, Cont.cell (AV.int IntKind.i64 u)), (9, 2, Cont.cell (AV.int IntKind.i64 i)), (9, 3, Cont.cell (AV.int IntKind.i64 j)), (9, 4, Cont.cell (AV.int IntKind.i64 t)), (9, 5, Cont.top)], 65, 99⟩) (by kernel_rfl) (by kernel_rfl) ?_ ?_
    · (simp only [All]; (repeat' apply And.intro) <;> (try intro _) <;> (try intro _) <;> (repeat' apply And.intro) <;> (try intro _) <;> (try intro _) <;> first | trivial | assumption | exact .inr trivial | exact .inr rfl | omega | rfl | exact ⟨_, rfl, rfl⟩ | exact ⟨rfl, rfl⟩ | exact ⟨fun _ => rfl, fun _ => rfl⟩ | (unfold maxLen; omega) | (unfold i64R; first | omega | decide) | decide)
    refine evC_go0 (dec := []) (ks := [(0, 1), (0, 3), (0, 5), (0, 6), (0, 7), (0, 8), (0, 9), (1, 0), (1, 64), (1, 128), (1, 192), (1, 193), (1, 194), (1, 195), (1, 259), (9, 0), (9, 1), (9, 2), (9, 3), (9, 4), (9, 5)]) (s' := ⟨[(0, 1, Cont.cell (AV.int IntKind.i64 team)), (0, 3, Cont.cell (AV.ptr 1 0)), (0, 5, Cont.cell (AV.ptr 9 0)), (0, 6, Cont.cell (AV.bool false)), (0, 7, Cont.cell (AV.int IntKind.i64 (chkF F G E W H K N team (k, u, i, j, t)))), (0, 8, Cont.cell (AV.int IntKind.i64 (IntKind.i64.wrap (↑(BitVec.toNat (BitVec.ofInt (IntKind.bits IntKind.i64) u &&& BitVec.ofInt (IntKind.bits IntKind.i64) 63)) : Int)))), (0, 9, Cont.cell (AV.int IntKind.i64 (IntKind.i64.wrap (↑(BitVec.toNat (BitVec.ofInt (IntKind.bits IntKind.i64) t &&& BitVec.ofInt (IntKind.bits IntKind.i64) 63)) : Int)))), (1, 0, Cont.arr 64 fun i => AV.int IntKind.i64 (F i)), (1, 64, Cont.arr 64 fun i => AV.bool (G i)), (1, 128, Cont.arr 64 fun i => AV.int IntKind.i64 (E i)), (1, 192, Cont.cell (AV.int IntKind.i64 W)), (1, 193, Cont.cell (AV.int IntKind.i64 H)), (1, 194, Cont.cell (AV.int IntKind.i64 K)), (1, 195, Cont.arr 64 fun i => AV.bool (N i)), (1, 259, Cont.top), (9, 0, Cont.cell (AV.int IntKind.i64 k)), (9, 1, Cont.cell (AV.int IntKind.i64 u)), (9, 2, Cont.cell (AV.int IntKind.i64 i)), (9, 3, Cont.cell (AV.int IntKind.i64 j)), (9, 4, Cont.cell (AV.int IntKind.i64 t)), (9, 5, Cont.top)], 129, 99⟩) (by kernel_rfl) (by kernel_rfl) ?_
    rw [and63 u, and63 t]
    refine evC_go (dec := []) (ks := [(0, 1), (0, 3), (0, 5), (0, 6), (0, 7), (0, 8), (0, 9), (0, 10), (1, 0), (1, 64), (1, 128), (1, 192), (1, 193), (1, 194), (1, 195), (1, 259), (9, 0), (9, 1), (9, 2), (9, 3), (9, 4), (9, 5)]) (ps := [IsSc (fun i => AV.int IntKind.i64 (F i)) (fun i => AV.bool (G i)) (fun i => AV.int IntKind.i64 (E i)) fun i => AV.bool (N i)]) (s' := ⟨[(0, 1, Cont.cell (AV.int IntKind.i64 team)), (0, 3, Cont.cell (AV.ptr 1 0)), (0, 5, Cont.cell (AV.ptr 9 0)), (0, 6, Cont.cell (AV.bool false)), (0, 7, Cont.cell (AV.int IntKind.i64 (chkF F G E W H K N team (k, u, i, j, t)))), (0, 8, Cont.cell (AV.int IntKind.i64 (plF u))), (0, 9, Cont.cell (AV.int IntKind.i64 (plF t))), (0, 10, Cont.cell (AV.int IntKind.i64 (chkF F G E W H K N team (0, u, 0, 0, 0)))), (1, 0, Cont.arr 64 fun i => AV.int IntKind.i64 (F i)), (1, 64, Cont.arr 64 fun i => AV.bool (G i)), (1, 128, Cont.arr 64 fun i => AV.int IntKind.i64 (E i)), (1, 192, Cont.cell (AV.int IntKind.i64 W)), (1, 193, Cont.cell (AV.int IntKind.i64 H)), (1, 194, Cont.cell (AV.int IntKind.i64 K)), (1, 195, Cont.arr 64 fun i => AV.bool (N i)), (1, 259, Cont.top), (9, 0, Cont.cell (AV.int IntKind.i64 k)), (9, 1, Cont.cell (AV.int IntKind.i64 u)), (9, 2, Cont.cell (AV.int IntKind.i64 i)), (9, 3, Cont.cell (AV.int IntKind.i64 j)), (9, 4, Cont.cell (AV.int IntKind.i64 t)), (9, 5, Cont.top)], 185, 99⟩) (by kernel_rfl) (by kernel_rfl) ?_ ?_
    · (simp only [All]; (repeat' apply And.intro) <;> (try intro _) <;> (try intro _) <;> (repeat' apply And.intro) <;> (try intro _) <;> (try intro _) <;> first | trivial | assumption | exact .inr trivial | exact .inr rfl | omega | rfl | exact ⟨_, rfl, rfl⟩ | exact ⟨rfl, rfl⟩ | exact ⟨fun _ => rfl, fun _ => rfl⟩ | (unfold maxLen; omega) | (unfold i64R; first | omega | decide) | decide)
    refine evC_seq ?_
    refine evC_go0 (dec := []) (ks := [(0, 1), (0, 3), (0, 5), (0, 6), (0, 8), (0, 9), (0, 10), (0, 28), (1, 0), (1, 64), (1, 128), (1, 192), (1, 193), (1, 194), (1, 195), (1, 259), (9, 0), (9, 1), (9, 2), (9, 3), (9, 4), (9, 5)]) (s' := ⟨[(0, 1, Cont.cell (AV.int IntKind.i64 team)), (0, 3, Cont.cell (AV.ptr 1 0)), (0, 5, Cont.cell (AV.ptr 9 0)), (0, 6, Cont.cell (AV.bool false)), (0, 8, Cont.cell (AV.int IntKind.i64 (plF u))), (0, 9, Cont.cell (AV.int IntKind.i64 (plF t))), (0, 10, Cont.cell (AV.int IntKind.i64 (chkF F G E W H K N team (0, u, 0, 0, 0)))), (0, 28, Cont.cell (AV.bool (chkF F G E W H K N team (k, u, i, j, t) != 0))), (1, 0, Cont.arr 64 fun i => AV.int IntKind.i64 (F i)), (1, 64, Cont.arr 64 fun i => AV.bool (G i)), (1, 128, Cont.arr 64 fun i => AV.int IntKind.i64 (E i)), (1, 192, Cont.cell (AV.int IntKind.i64 W)), (1, 193, Cont.cell (AV.int IntKind.i64 H)), (1, 194, Cont.cell (AV.int IntKind.i64 K)), (1, 195, Cont.arr 64 fun i => AV.bool (N i)), (1, 259, Cont.top), (9, 0, Cont.cell (AV.int IntKind.i64 k)), (9, 1, Cont.cell (AV.int IntKind.i64 u)), (9, 2, Cont.cell (AV.int IntKind.i64 i)), (9, 3, Cont.cell (AV.int IntKind.i64 j)), (9, 4, Cont.cell (AV.int IntKind.i64 t)), (9, 5, Cont.top)], 201, 99⟩) (by kernel_rfl) (by kernel_rfl) ?_
    refine evC_if (q := chkF F G E W H K N team (k, u, i, j, t) != 0) (by kernel_rfl) (fun hc => ?_) (fun hc => ?_)
    · refine evC_go0 (dec := []) (ks := [(0, 1), (0, 3), (0, 5), (0, 6), (0, 8), (0, 9), (0, 10), (1, 0), (1, 64), (1, 128), (1, 192), (1, 193), (1, 194), (1, 195), (1, 259), (9, 0), (9, 1), (9, 2), (9, 3), (9, 4), (9, 5)]) (s' := ⟨[(0, 1, Cont.cell (AV.int IntKind.i64 team)), (0, 3, Cont.cell (AV.ptr 1 0)), (0, 5, Cont.cell (AV.ptr 9 0)), (0, 6, Cont.cell (AV.bool true)), (0, 8, Cont.cell (AV.int IntKind.i64 (plF u))), (0, 9, Cont.cell (AV.int IntKind.i64 (plF t))), (0, 10, Cont.cell (AV.int IntKind.i64 (chkF F G E W H K N team (0, u, 0, 0, 0)))), (1, 0, Cont.arr 64 fun i => AV.int IntKind.i64 (F i)), (1, 64, Cont.arr 64 fun i => AV.bool (G i)), (1, 128, Cont.arr 64 fun i => AV.int IntKind.i64 (E i)), (1, 192, Cont.cell (AV.int IntKind.i64 W)), (1, 193, Cont.cell (AV.int IntKind.i64 H)), (1, 194, Cont.cell (AV.int IntKind.i64 K)), (1, 195, Cont.arr 64 fun i => AV.bool (N i)), (1, 259, Cont.top), (9, 0, Cont.cell (AV.int IntKind.i64 k)), (9, 1, Cont.cell (AV.int IntKind.i64 u)), (9, 2, Cont.cell (AV.int IntKind.i64 i)), (9, 3, Cont.cell (AV.int IntKind.i64 j)), (9, 4, Cont.cell (AV.int IntKind.i64 t)), (9, 5, Cont.top)], 217, 99⟩) (by kernel_rfl) (by kernel_rfl) ?_
      refine evC_ret ?_
      refine then_ret ?_
      refine post_ret ?_
      refine ends_flat (vs := [AV.bool true]) (Nat.zero_lt_succ _) (by kernel_rfl) (flat_of _ (by kernel_rfl)) rfl ?_
      rfl
    · have h0 : chkF F G E W H K N team (k, u, i, j, t) = 0 := by simpa [bne] using hc
      obtain ⟨⟨hm, hf⟩, h3, h4, h5⟩ := chk_zero h0
      have hst := chk_stop h0
      simp only at h3 h4 h5 hst
      obtain ⟨h6, h7⟩ := th_zero h3
      have hr1 := (fO_rng hf).1
      have hr2 := (fO_rng hf).2.1
      simp only at hr1 hr2
      have hp := plF_range u
      have hp2 := plF_range t
      have hg := may_get (mayS_may hm) (p := (plF u).toNat) (by omega)
      have hg2 := may_get (mayS_may hm) (p := (plF t).toNat) (by omega)
      clear hc
      have hF := hg.2.2 h6
      refine evC_skip ?_
      refine then_normal ?_
      refine evC_seq ?_
      refine evC_go (dec := []) (ks := [(0, 1), (0, 3), (0, 5), (0, 6), (0, 9), (0, 59), (1, 0), (1, 64), (1, 128), (1, 192), (1, 193), (1, 194), (1, 195), (1, 259), (9, 0), (9, 1), (9, 2), (9, 3), (9, 4), (9, 5)]) (ps := [(0 : Int) ≤ plF u, plF u < (↑(64 : Nat) : Int), (0 : Int) ≤ plF u, plF u < (↑(64 : Nat) : Int), List.all [!!G (Int.toNat (plF u))] id = true → (0 : Int) ≤ plF u, List.all [!!G (Int.toNat (plF u))] id = true → plF u < (↑(64 : Nat) : Int), List.all [!!G (Int.toNat (plF u))] id = true → (0 : Int) ≤ plF u, List.all [!!G (Int.toNat (plF u))] id = true → plF u < (↑(64 : Nat) : Int), List.all [!bif bif !G (Int.toNat (plF u)) then true else E (Int.toNat (plF u)) != team then true else chkF F G E W H K N team ((0 : Int), u, (0 : Int), (0 : Int), (0 : Int)) != (0 : Int)] id = true → (64 : Int) ≠ (0 : Int), List.all [!bif bif !G (Int.toNat (plF u)) then true else E (Int.toNat (plF u)) != team then true else chkF F G E W H K N team ((0 : Int), u, (0 : Int), (0 : Int), (0 : Int)) != (0 : Int)] id = true → (0 : Int) ≤ plF u, List.all [!bif bif !G (Int.toNat (plF u)) then true else E (Int.toNat (plF u)) != team then true else chkF F G E W H K N team ((0 : Int), u, (0 : Int), (0 : Int), (0 : Int)) != (0 : Int)] id = true → plF u < (↑(64 : Nat) : Int), List.all [!bif bif !G (Int.toNat (plF u)) then true else E (Int.toNat (plF u)) != team then true else chkF F G E W H K N team ((0 : Int), u, (0 : Int), (0 : Int), (0 : Int)) != (0 : Int)] id = true → (0 : Int) ≤ plF u, List.all [!bif bif !G (Int.toNat (plF u)) then true else E (Int.toNat (plF u)) != team then true else chkF F G E W H K N team ((0 : Int), u, (0 : Int), (0 : Int), (0 : Int)) != (0 : Int)] id = true → plF u < (↑(64 : Nat) : Int)]) (s' := ⟨[(0, 1, Cont.cell (AV.int IntKind.i64 team)), (0, 3, Cont.cell (AV.ptr 1 0)), (0, 5, Cont.cell (AV.ptr 9 0)), (0, 6, Cont.cell (AV.bool false)), (0, 9, Cont.cell (AV.int IntKind.i64 (plF t))), (0, 59, Cont.cell (AV.bool (bif bif bif !G (Int.toNat (plF u)) then true else E (Int.toNat (plF u)) != team then true else chkF F G E W H K N team (0, u, 0, 0, 0) != 0 then true else IntKind.i64.wrap (Int.tdiv u 64) != IntKind.i64.wrap (F (Int.toNat (plF u)) - 1)))), (1, 0, Cont.arr 64 fun i => AV.int IntKind.i64 (F i)), (1, 64, Cont.arr 64 fun i => AV.bool (G i)), (1, 128, Cont.arr 64 fun i => AV.int IntKind.i64 (E i)), (1, 192, Cont.cell (AV.int IntKind.i64 W)), (1, 193, Cont.cell (AV.int IntKind.i64 H)), (1, 194, Cont.cell (AV.int IntKind.i64 K)), (1, 195, Cont.arr 64 fun i => AV.bool (N i)), (1, 259, Cont.top), (9, 0, Cont.cell (AV.int IntKind.i64 k)), (9, 1, Cont.cell (AV.int IntKind.i64 u)), (9, 2, Cont.cell (AV.int IntKind.i64 i)), (9, 3, Cont.cell (AV.int IntKind.i64 j)), (9, 4, Cont.cell (AV.int IntKind.i64 t)), (9, 5, Cont.top)], 441, 99⟩) (by kernel_rfl) (by kernel_rfl) ?_ ?_
      · simp only [All]
        repeat' apply And.intro
        all_goals (try intro _) <;> first | exact hp.1 | exact hp.2 | decide | trivial
      rw [h6, h4, hst, div64 u hr1.1, w64 (x := u / 64) (by omega) (by omega), w64 (x := F (plF u).toNat - 1) (by omega) (by omega), h7]
      refine evC_if (q := bif bif bif !true then true else false then true else 0 != 0 then true else F (Int.toNat (plF u)) - 1 != F (Int.toNat (plF u)) - 1) (by kernel_rfl) (fun hc => ?_) (fun hc => ?_)
      · exfalso
        simp at hc
      clear hc
      cases hk : (k == 2) with
      | false =>
        refine evC_skip ?_
        refine then_normal ?_
        refine evC_seq ?_
        refine evC_go (dec := []) (ks := [(0, 6), (0, 97)]) (ps := [List.all [k == (2 : Int)] id = true → (0 : Int) ≤ plF t, List.all [k == (2 : Int)] id = true → plF t < (↑(64 : Nat) : Int), List.all [k == (2 : Int)] id = true → (0 : Int) ≤ plF t, List.all [k == (2 : Int)] id = true → plF t < (↑(64 : Nat) : Int), List.all [!!G (Int.toNat (plF t)), k == (2 : Int)] id = true → (0 : Int) ≤ plF t, List.all [!!G (Int.toNat (plF t)), k == (2 : Int)] id = true → plF t < (↑(64 : Nat) : Int), List.all [!!G (Int.toNat (plF t)), k == (2 : Int)] id = true → (0 : Int) ≤ plF t, List.all [!!G (Int.toNat (plF t)), k == (2 : Int)] id = true → plF t < (↑(64 : Nat) : Int), List.all [!bif !G (Int.toNat (plF t)) then true else E (Int.toNat (plF t)) == team, k == (2 : Int)] id = true → (0 : Int) ≤ plF t, List.all [!bif !G (Int.toNat (plF t)) then true else E (Int.toNat (plF t)) == team, k == (2 : Int)] id = true → plF t < (↑(64 : Nat) : Int), List.all [!bif !G (Int.toNat (plF t)) then true else E (Int.toNat (plF t)) == team, k == (2 : Int)] id = true → (0 : Int) ≤ plF t, List.all [!bif !G (Int.toNat (plF t)) then true else E (Int.toNat (plF t)) == team, k == (2 : Int)] id = true → plF t < (↑(64 : Nat) : Int), List.all [!bif bif !G (Int.toNat (plF t)) then true else E (Int.toNat (plF t)) == team then true else !N (Int.toNat (plF t)), k == (2 : Int)] id = true → (64 : Int) ≠ (0 : Int), List.all [!bif bif !G (Int.toNat (plF t)) then true else E (Int.toNat (plF t)) == team then true else !N (Int.toNat (plF t)), k == (2 : Int)] id = true → (0 : Int) ≤ plF t, List.all [!bif bif !G (Int.toNat (plF t)) then true else E (Int.toNat (plF t)) == team then true else !N (Int.toNat (plF t)), k == (2 : Int)] id = true → plF t < (↑(64 : Nat) : Int), List.all [!bif bif !G (Int.toNat (plF t)) then true else E (Int.toNat (plF t)) == team then true else !N (Int.toNat (plF t)), k == (2 : Int)] id = true → (0 : Int) ≤ plF t, List.all [!bif bif !G (Int.toNat (plF t)) then true else E (Int.toNat (plF t)) == team then true else !N (Int.toNat (plF t)), k == (2 : Int)] id = true → plF t < (↑(64 : Nat) : Int)]) (s' := ⟨[(0, 6, Cont.cell (AV.bool false)), (0, 97, Cont.cell (AV.bool (bif k == 2 then bif bif bif !G (Int.toNat (plF t)) then true else E (Int.toNat (plF t)) == team then true else !N (Int.toNat (plF t)) then true else IntKind.i64.wrap (Int.tdiv t 64) != IntKind.i64.wrap (F (Int.toNat (plF t)) - 1) else false)))], 745, 99⟩) (by kernel_rfl) (by kernel_rfl) ?_ ?_
        · simp only [All]
          repeat' apply And.intro
          all_goals (try intro _) <;> first | exact hp2.1 | exact hp2.2 | decide | trivial
        rw [hk]
        refine evC_if (q := false) (by kernel_rfl) (fun hc => ?_) (fun hc => ?_)
        · exfalso
          simp at hc
        refine evC_skip ?_
        refine then_normal ?_
        refine evC_go0 (dec := []) (ks := [(0, 6)]) (s' := ⟨[(0, 6, Cont.cell (AV.bool true))], 761, 99⟩) (by kernel_rfl) (by kernel_rfl) ?_
        refine evC_ret ?_
        refine post_ret ?_
        refine ends_flat (vs := [AV.bool true]) (Nat.zero_lt_succ _) (by kernel_rfl) (flat_of _ (by kernel_rfl)) rfl ?_
        rfl
      | true =>
        obtain ⟨j3, j4, j5⟩ := tg_zero (h5 (by simpa using hk))
        obtain ⟨j6, j7⟩ := th_zero j3
        have jF := hg2.2.2 j6
        refine evC_skip ?_
        refine then_normal ?_
        refine evC_seq ?_
        refine evC_go (dec := []) (ks := [(0, 6), (0, 97)]) (ps := [List.all [k == (2 : Int)] id = true → (0 : Int) ≤ plF t, List.all [k == (2 : Int)] id = true → plF t < (↑(64 : Nat) : Int), List.all [k == (2 : Int)] id = true → (0 : Int) ≤ plF t, List.all [k == (2 : Int)] id = true → plF t < (↑(64 : Nat) : Int), List.all [!!G (Int.toNat (plF t)), k == (2 : Int)] id = true → (0 : Int) ≤ plF t, List.all [!!G (Int.toNat (plF t)), k == (2 : Int)] id = true → plF t < (↑(64 : Nat) : Int), List.all [!!G (Int.toNat (plF t)), k == (2 : Int)] id = true → (0 : Int) ≤ plF t, List.all [!!G (Int.toNat (plF t)), k == (2 : Int)] id = true → plF t < (↑(64 : Nat) : Int), List.all [!bif !G (Int.toNat (plF t)) then true else E (Int.toNat (plF t)) == team, k == (2 : Int)] id = true → (0 : Int) ≤ plF t, List.all [!bif !G (Int.toNat (plF t)) then true else E (Int.toNat (plF t)) == team, k == (2 : Int)] id = true → plF t < (↑(64 : Nat) : Int), List.all [!bif !G (Int.toNat (plF t)) then true else E (Int.toNat (plF t)) == team, k == (2 : Int)] id = true → (0 : Int) ≤ plF t, List.all [!bif !G (Int.toNat (plF t)) then true else E (Int.toNat (plF t)) == team, k == (2 : Int)] id = true → plF t < (↑(64 : Nat) : Int), List.all [!bif bif !G (Int.toNat (plF t)) then true else E (Int.toNat (plF t)) == team then true else !N (Int.toNat (plF t)), k == (2 : Int)] id = true → (64 : Int) ≠ (0 : Int), List.all [!bif bif !G (Int.toNat (plF t)) then true else E (Int.toNat (plF t)) == team then true else !N (Int.toNat (plF t)), k == (2 : Int)] id = true → (0 : Int) ≤ plF t, List.all [!bif bif !G (Int.toNat (plF t)) then true else E (Int.toNat (plF t)) == team then true else !N (Int.toNat (plF t)), k == (2 : Int)] id = true → plF t < (↑(64 : Nat) : Int), List.all [!bif bif !G (Int.toNat (plF t)) then true else E (Int.toNat (plF t)) == team then true else !N (Int.toNat (plF t)), k == (2 : Int)] id = true → (0 : Int) ≤ plF t, List.all [!bif bif !G (Int.toNat (plF t)) then true else E (Int.toNat (plF t)) == team then true else !N (Int.toNat (plF t)), k == (2 : Int)] id = true → plF t < (↑(64 : Nat) : Int)]) (s' := ⟨[(0, 6, Cont.cell (AV.bool false)), (0, 97, Cont.cell (AV.bool (bif k == 2 then bif bif bif !G (Int.toNat (plF t)) then true else E (Int.toNat (plF t)) == team then true else !N (Int.toNat (plF t)) then true else IntKind.i64.wrap (Int.tdiv t 64) != IntKind.i64.wrap (F (Int.toNat (plF t)) - 1) else false)))], 745, 99⟩) (by kernel_rfl) (by kernel_rfl) ?_ ?_
        · simp only [All]
          repeat' apply And.intro
          all_goals (try intro _) <;> first | exact hp2.1 | exact hp2.2 | decide | trivial
        rw [hk, j6, j4, j5, div64 t hr2.1, w64 (x := t / 64) (by omega) (by omega), w64 (x := F (plF t).toNat - 1) (by omega) (by omega), j7]
        refine evC_if (q := bif bif bif !true then true else false then true else !true then true else F (Int.toNat (plF t)) - 1 != F (Int.toNat (plF t)) - 1) (by kernel_rfl) (fun hc => ?_) (fun hc => ?_)
        · exfalso
          simp at hc
        refine evC_skip ?_
        refine then_normal ?_
        refine evC_go0 (dec := []) (ks := [(0, 6)]) (s' := ⟨[(0, 6, Cont.cell (AV.bool true))], 761, 99⟩) (by kernel_rfl) (by kernel_rfl) ?_
        refine evC_ret ?_
        refine post_ret ?_
        refine ends_flat (vs := [AV.bool true]) (Nat.zero_lt_succ _) (by kernel_rfl) (flat_of _ (by kernel_rfl)) rfl ?_
        rfl
  · cases e
end Go.Eng.S22
