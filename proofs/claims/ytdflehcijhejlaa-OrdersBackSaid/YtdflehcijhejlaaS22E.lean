/- Seat 22: which orders may be given, walked. -/
import Derived.Test.YtdflehcijhejlaaEngX
import Derived.Test.YtdflehcijhejlaaS22D
set_option linter.unusedSimpArgs false
set_option linter.unusedVariables false
namespace Go.Eng.S22
open Go.Proofs Go.IntWalk
set_option maxRecDepth 10000

/-- A scene. -/
def sc (F : Nat → Int) (G : Nat → Bool) (E : Nat → Int) (W H K : Int) (N : Nat → Bool) : AV :=
  .agg [.arr 64 fun i => .int .i64 (F i), .arr 64 fun i => .bool (G i), .arr 64 fun i => .int .i64 (E i), .int .i64 W, .int .i64 H, .int .i64 K, .arr 64 fun i => .bool (N i)]
theorem sc_flat (F : Nat → Int) (G : Nat → Bool) (E : Nat → Int) (W H K : Int) (N : Nat → Bool) : Flat (sc F G E W H K N) := by
  refine .agg _ fun v hv => ?_
  simp only [List.mem_cons, List.not_mem_nil, or_false] at hv
  rcases hv with rfl | rfl | rfl | rfl | rfl | rfl | rfl
  · exact .arr _ _ fun i => .int _ _
  · exact .arr _ _ fun i => .bool _
  · exact .arr _ _ fun i => .int _ _
  · exact .int _ _
  · exact .int _ _
  · exact .int _ _
  · exact .arr _ _ fun i => .bool _
structure IsSc (f g e n : Nat → AV) : Prop where
  f : ∀ i, f i = .int .i64 (iv (f i))
  g : ∀ i, g i = .bool (bv (g i))
  e : ∀ i, e i = .int .i64 (iv (e i))
  n : ∀ i, n i = .bool (bv (n i))
theorem isSc (F : Nat → Int) (G : Nat → Bool) (E : Nat → Int) (N : Nat → Bool) : IsSc (fun i => .int .i64 (F i)) (fun i => .bool (G i)) (fun i => .int .i64 (E i)) (fun i => .bool (N i)) := ⟨fun _ => rfl, fun _ => rfl, fun _ => rfl, fun _ => rfl⟩
theorem IsSc.eq {f g e n : Nat → AV} (h : IsSc f g e n) (W H K : Int) : (AV.agg [.arr 64 f, .arr 64 g, .arr 64 e, .int .i64 W, .int .i64 H, .int .i64 K, .arr 64 n]) = sc (fun i => iv (f i)) (fun i => bv (g i)) (fun i => iv (e i)) W H K (fun i => bv (n i)) := by
  unfold sc
  rw [← funext h.f, ← funext h.g, ← funext h.e, ← funext h.n]
theorem isAr (F : Nat → Int) (G : Nat → Bool) : IsAr (fun i => .int .i64 (F i)) (fun i => .bool (G i)) := ⟨fun _ => rfl, fun _ => rfl⟩
def mayS (F : Nat → Int) (G : Nat → Bool) (W H K : Int) : Bool := mayA F G && inR 1 64 W && inR 1 64 H && inR 1 16 K
def sMayS : Spec := fun args _ _ => match args with
  | [.agg [.arr 64 f, .arr 64 g, .arr 64 e, .int .i64 W, .int .i64 H, .int .i64 K, .arr 64 n]] => some ⟨[IsSc f g e n], .bool (mayS (fun i => iv (f i)) (fun i => bv (g i)) W H K), [], []⟩
  | _ => none
theorem mayS_ok : SpecOK Try.prog 28 sMayS := by
  refine spec_own (by kernel_rfl) T_ok (sget_cons may_ok sget_nil) Try.func28 rfl rfl fun args hr nb out e => ?_
  unfold sMayS at e
  split at e
  · rename_i f g s W H K n
    injection e with e; subst e
    refine ⟨(fun _ h => nomatch h), true, [sc (fun i => iv (f i)) (fun i => bv (g i)) (fun i => iv (s i)) W H K (fun i => bv (n i))], rfl, fun hs => ?_⟩
    have hA := hs _ List.mem_cons_self
    rw [hA.eq]
    generalize (fun i => iv (f i)) = F, (fun i => bv (g i)) = G, (fun i => iv (s i)) = E, (fun i => bv (n i)) = N
    clear hs hA
    refine ⟨.cons _ _ _ _ (.same _ _ (sc_flat F G E W H K N).has) .nil, ?_⟩
    have hA := isAr F G
    unfold sc
    refine evC_go0 (dec := []) (ks := [(0, 1), (0, 2), (1, 0), (1, 64), (1, 128), (1, 192), (1, 193), (1, 194), (1, 195), (1, 259)]) (s' := ⟨[(0, 1, Cont.cell (AV.ptr 1 0)), (0, 2, Cont.cell (AV.bool false)), (1, 0, Cont.arr 64 fun i => AV.int IntKind.i64 (F i)), (1, 64, Cont.arr 64 fun i => AV.bool (G i)), (1, 128, Cont.arr 64 fun i => AV.int IntKind.i64 (E i)), (1, 192, Cont.cell (AV.int IntKind.i64 W)), (1, 193, Cont.cell (AV.int IntKind.i64 H)), (1, 194, Cont.cell (AV.int IntKind.i64 K)), (1, 195, Cont.arr 64 fun i => AV.bool (N i)), (1, 259, Cont.top)], 17, 36⟩) (by kernel_rfl) (by kernel_rfl) ?_
    refine evC_go (dec := []) (ks := [(0, 2)]) (ps := [IsAr (fun i => AV.int IntKind.i64 (F i)) fun i => AV.bool (G i)]) (s' := ⟨[(0, 2, Cont.cell (AV.bool (bif bif bif bif bif bif mayA F G then decide (W ≥ 1) else false then decide (W ≤ 64) else false then decide (H ≥ 1) else false then decide (H ≤ 64) else false then decide (K ≥ 1) else false then decide (K ≤ 16) else false)))], 289, 36⟩) (by kernel_rfl) (by kernel_rfl) ?_ ?_
    · (simp only [All]; (repeat' apply And.intro) <;> (try intro _) <;> (try intro _) <;> (repeat' apply And.intro) <;> (try intro _) <;> (try intro _) <;> first | trivial | assumption | exact .inr trivial | exact .inr rfl | omega | rfl | exact ⟨_, rfl, rfl⟩ | exact ⟨rfl, rfl⟩ | exact ⟨fun _ => rfl, fun _ => rfl⟩ | (unfold maxLen; omega) | (unfold i64R; first | omega | decide) | decide)
    refine evC_ret ?_
    refine post_ret ?_
    refine ends_flat (vs := [AV.bool (bif bif bif bif bif bif mayA F G then decide (W ≥ 1) else false then decide (W ≤ 64) else false then decide (H ≥ 1) else false then decide (H ≤ 64) else false then decide (K ≥ 1) else false then decide (K ≤ 16) else false)]) (Nat.zero_lt_succ _) (by kernel_rfl) (flat_of _ (by kernel_rfl)) rfl ?_
    refine congrArg AV.bool ?_
    unfold mayS inR
    simp only [cond_and, ge_iff_le, Bool.and_assoc]
  · cases e

/-- What says whether somebody is there. -/
def thF (F : Nat → Int) (G : Nat → Bool) (id : Int) : Int := bif givenF F id then (bif (id == 64 * (F (plF id).toNat - 1) + plF id) && G (plF id).toNat then 0 else 12) else 6
theorem given_iff {F : Nat → Int} {id : Int} (h : 0 ≤ id) : givenF F id = decide (id / 64 < F (plF id).toNat) := by
  have := id_split id
  have hp := plF_range id
  unfold givenF
  rw [decide_eq_true h, Bool.true_and]
  refine decide_eq_decide.2 ?_
  omega
theorem th_is {F : Nat → Int} {G : Nat → Bool} {id : Int} (hm : mayA F G = true) (h : 0 ≤ id) (hc : isF F G id = true) : thF F G id = 0 := by
  have e := id_split id
  have hp := plF_range id
  unfold isF at hc
  simp only [Bool.and_eq_true] at hc
  have h1 : id = 64 * (F (plF id).toNat - 1) + plF id := by simpa using hc.2
  have : givenF F id = true := by rw [given_iff h]; refine decide_eq_true ?_; omega
  unfold thF
  rw [this, hc.2, hc.1.2]; rfl
theorem th_not {F : Nat → Int} {G : Nat → Bool} {id : Int} (hm : mayA F G = true) (h : 0 ≤ id) (hc : isF F G id = false) : thF F G id = bif decide (id / 64 < F (plF id).toNat) then 12 else 6 := by
  unfold thF
  rw [given_iff h]
  have : ((id == 64 * (F (plF id).toNat - 1) + plF id) && G (plF id).toNat) = false := by
    unfold isF at hc
    rw [decide_eq_true h, hm] at hc
    rw [Bool.and_comm]
    simpa using hc
  rw [this]; rfl
def sThere : Spec := fun args _ _ => match args with
  | [.agg [.arr 64 f, .arr 64 g, .arr 64 e, .int .i64 W, .int .i64 H, .int .i64 K, .arr 64 n], .int .i64 id] => some ⟨[IsSc f g e n, mayA (fun i => iv (f i)) (fun i => bv (g i)) = true, 0 ≤ id ∧ id < 67108864], .int .i64 (thF (fun i => iv (f i)) (fun i => bv (g i)) id), [], []⟩
  | _ => none
theorem there_ok : SpecOK Try.prog 29 sThere := by
  refine spec_own (by kernel_rfl) T_ok (sget_cons is_ok (sget_cons place_ok sget_nil)) Try.func29 rfl rfl fun args hr nb out e => ?_
  unfold sThere at e
  split at e
  · rename_i f g s W H K n id
    injection e with e; subst e
    refine ⟨(fun _ h => nomatch h), true, [sc (fun i => iv (f i)) (fun i => bv (g i)) (fun i => iv (s i)) W H K (fun i => bv (n i)), .int .i64 id], rfl, fun hs => ?_⟩
    have hA := hs _ List.mem_cons_self
    have hm := hs _ (List.mem_cons_of_mem _ List.mem_cons_self)
    have hi := hs _ (List.mem_cons_of_mem _ (List.mem_cons_of_mem _ List.mem_cons_self))
    rw [hA.eq]
    generalize (fun i => iv (f i)) = F at hm ⊢
    generalize (fun i => bv (g i)) = G at hm ⊢
    generalize (fun i => iv (s i)) = E, (fun i => bv (n i)) = N
    clear hs hA
    refine ⟨.cons _ _ _ _ (.same _ _ (sc_flat F G E W H K N).has) (.cons _ _ _ _ (.same _ _ (.int _ _)) .nil), ?_⟩
    have hA := isAr F G
    unfold sc
    refine evC_go0 (dec := []) (ks := [(0, 1), (0, 2), (0, 4), (1, 0), (1, 64), (1, 128), (1, 192), (1, 193), (1, 194), (1, 195), (1, 259)]) (s' := ⟨[(0, 1, Cont.cell (AV.int IntKind.i64 id)), (0, 2, Cont.cell (AV.ptr 1 0)), (0, 4, Cont.cell (AV.int IntKind.i64 0)), (1, 0, Cont.arr 64 fun i => AV.int IntKind.i64 (F i)), (1, 64, Cont.arr 64 fun i => AV.bool (G i)), (1, 128, Cont.arr 64 fun i => AV.int IntKind.i64 (E i)), (1, 192, Cont.cell (AV.int IntKind.i64 W)), (1, 193, Cont.cell (AV.int IntKind.i64 H)), (1, 194, Cont.cell (AV.int IntKind.i64 K)), (1, 195, Cont.arr 64 fun i => AV.bool (N i)), (1, 259, Cont.top)], 17, 20⟩) (by kernel_rfl) (by kernel_rfl) ?_
    refine evC_seq ?_
    refine evC_block ?_
    refine evC_go (dec := []) (ks := [(0, 1), (0, 2), (0, 4), (0, 5), (1, 0), (1, 64), (1, 128), (1, 192), (1, 193), (1, 194), (1, 195), (1, 259)]) (ps := [IsAr (fun i => AV.int IntKind.i64 (F i)) fun i => AV.bool (G i), i64R id]) (s' := ⟨[(0, 1, Cont.cell (AV.int IntKind.i64 id)), (0, 2, Cont.cell (AV.ptr 1 0)), (0, 4, Cont.cell (AV.int IntKind.i64 0)), (0, 5, Cont.cell (AV.bool (isF F G id))), (1, 0, Cont.arr 64 fun i => AV.int IntKind.i64 (F i)), (1, 64, Cont.arr 64 fun i => AV.bool (G i)), (1, 128, Cont.arr 64 fun i => AV.int IntKind.i64 (E i)), (1, 192, Cont.cell (AV.int IntKind.i64 W)), (1, 193, Cont.cell (AV.int IntKind.i64 H)), (1, 194, Cont.cell (AV.int IntKind.i64 K)), (1, 195, Cont.arr 64 fun i => AV.bool (N i)), (1, 259, Cont.top)], 57, 20⟩) (by kernel_rfl) (by kernel_rfl) ?_ ?_
    · (simp only [All]; (repeat' apply And.intro) <;> (try intro _) <;> (try intro _) <;> (repeat' apply And.intro) <;> (try intro _) <;> (try intro _) <;> first | trivial | assumption | exact .inr trivial | exact .inr rfl | omega | rfl | exact ⟨_, rfl, rfl⟩ | exact ⟨rfl, rfl⟩ | exact ⟨fun _ => rfl, fun _ => rfl⟩ | (unfold maxLen; omega) | (unfold i64R; first | omega | decide) | decide)
    have hp := plF_range id
    refine evC_if (q := isF F G id) (by kernel_rfl) (fun hc => ?_) (fun hc => ?_)
    · refine evC_go0 (dec := []) (ks := [(0, 4)]) (s' := ⟨[(0, 4, Cont.cell (AV.int IntKind.i64 0))], 65, 20⟩) (by kernel_rfl) (by kernel_rfl) ?_
      refine evC_ret ?_
      refine block_ret ?_
      refine then_ret ?_
      refine post_ret ?_
      refine ends_flat (vs := [AV.int IntKind.i64 0]) (Nat.zero_lt_succ _) (by kernel_rfl) (flat_of _ (by kernel_rfl)) rfl ?_
      rw [th_is hm hi.1 hc]; rfl
    · refine evC_go (dec := []) (ks := [(0, 4), (0, 10)]) (ps := [(64 : Int) ≠ (0 : Int), (0 : Int) ≤ plF id, plF id < (↑(64 : Nat) : Int), (0 : Int) ≤ plF id, plF id < (↑(64 : Nat) : Int)]) (s' := ⟨[(0, 4, Cont.cell (AV.int IntKind.i64 0)), (0, 10, Cont.cell (AV.bool (decide (IntKind.i64.wrap (Int.tdiv id 64) < F (Int.toNat (plF id))))))], 137, 20⟩) (by kernel_rfl) (by kernel_rfl) ?_ ?_
      · (simp only [All]; (repeat' apply And.intro) <;> (try intro _) <;> (try intro _) <;> (repeat' apply And.intro) <;> (try intro _) <;> (try intro _) <;> first | trivial | assumption | exact .inr trivial | exact .inr rfl | omega | rfl | exact ⟨_, rfl, rfl⟩ | exact ⟨rfl, rfl⟩ | exact ⟨fun _ => rfl, fun _ => rfl⟩ | (unfold maxLen; omega) | (unfold i64R; first | omega | decide) | decide)
      rw [div64 id hi.1, w64 (x := id / 64) (by omega) (by omega)]
      have e := th_not hm hi.1 hc
      clear hc
      refine evC_if (q := decide (id / 64 < F (Int.toNat (plF id)))) (by kernel_rfl) (fun hc => ?_) (fun hc => ?_)
      · rw [hc] at e
        refine evC_go0 (dec := []) (ks := [(0, 4)]) (s' := ⟨[(0, 4, Cont.cell (AV.int IntKind.i64 12))], 145, 20⟩) (by kernel_rfl) (by kernel_rfl) ?_
        refine evC_ret ?_
        refine block_ret ?_
        refine then_ret ?_
        refine post_ret ?_
        refine ends_flat (vs := [AV.int IntKind.i64 12]) (Nat.zero_lt_succ _) (by kernel_rfl) (flat_of _ (by kernel_rfl)) rfl ?_
        rw [e]; rfl
      · rw [hc] at e
        refine evC_skip ?_
        refine block_normal ?_
        refine then_normal ?_
        refine evC_go0 (dec := []) (ks := [(0, 4)]) (s' := ⟨[(0, 4, Cont.cell (AV.int IntKind.i64 6))], 145, 20⟩) (by kernel_rfl) (by kernel_rfl) ?_
        refine evC_ret ?_
        refine post_ret ?_
        refine ends_flat (vs := [AV.int IntKind.i64 6]) (Nat.zero_lt_succ _) (by kernel_rfl) (flat_of _ (by kernel_rfl)) rfl ?_
        rw [e]; rfl
  · cases e

/-- Whom one may attack. -/
def tgF (F : Nat → Int) (G : Nat → Bool) (E : Nat → Int) (N : Nat → Bool) (team id : Int) : Int :=
  bif thF F G id != 0 then thF F G id else bif E (plF id).toNat == team then 11 else bif !N (plF id).toNat then 13 else 0
def sTarget : Spec := fun args _ _ => match args with
  | [.agg [.arr 64 f, .arr 64 g, .arr 64 e, .int .i64 W, .int .i64 H, .int .i64 K, .arr 64 n], .int .i64 team, .int .i64 id] => some ⟨[IsSc f g e n, mayA (fun i => iv (f i)) (fun i => bv (g i)) = true, 0 ≤ id ∧ id < 67108864], .int .i64 (tgF (fun i => iv (f i)) (fun i => bv (g i)) (fun i => iv (e i)) (fun i => bv (n i)) team id), [], []⟩
  | _ => none
theorem target_ok : SpecOK Try.prog 31 sTarget := by
  refine spec_own (by kernel_rfl) T_ok (sget_cons there_ok (sget_cons place_ok sget_nil)) Try.func31 rfl rfl fun args hr nb out e => ?_
  unfold sTarget at e
  split at e
  · rename_i f g s W H K n team id
    injection e with e; subst e
    refine ⟨(fun _ h => nomatch h), true, [sc (fun i => iv (f i)) (fun i => bv (g i)) (fun i => iv (s i)) W H K (fun i => bv (n i)), .int .i64 team, .int .i64 id], rfl, fun hs => ?_⟩
    have hA := hs _ List.mem_cons_self
    have hm := hs _ (List.mem_cons_of_mem _ List.mem_cons_self)
    have hi := hs _ (List.mem_cons_of_mem _ (List.mem_cons_of_mem _ List.mem_cons_self))
    rw [hA.eq]
    generalize (fun i => iv (f i)) = F at hm ⊢
    generalize (fun i => bv (g i)) = G at hm ⊢
    generalize (fun i => iv (s i)) = E, (fun i => bv (n i)) = N
    clear hs hA
    refine ⟨.cons _ _ _ _ (.same _ _ (sc_flat F G E W H K N).has) (.cons _ _ _ _ (.same _ _ (.int _ _)) (.cons _ _ _ _ (.same _ _ (.int _ _)) .nil)), ?_⟩
    have hA := isSc F G E N
    have hp := plF_range id
    unfold sc
    refine evC_go0 (dec := []) (ks := [(0, 1), (0, 2), (0, 3), (0, 6), (1, 0), (1, 64), (1, 128), (1, 192), (1, 193), (1, 194), (1, 195), (1, 259)]) (s' := ⟨[(0, 1, Cont.cell (AV.int IntKind.i64 team)), (0, 2, Cont.cell (AV.int IntKind.i64 id)), (0, 3, Cont.cell (AV.ptr 1 0)), (0, 6, Cont.cell (AV.int IntKind.i64 0)), (1, 0, Cont.arr 64 fun i => AV.int IntKind.i64 (F i)), (1, 64, Cont.arr 64 fun i => AV.bool (G i)), (1, 128, Cont.arr 64 fun i => AV.int IntKind.i64 (E i)), (1, 192, Cont.cell (AV.int IntKind.i64 W)), (1, 193, Cont.cell (AV.int IntKind.i64 H)), (1, 194, Cont.cell (AV.int IntKind.i64 K)), (1, 195, Cont.arr 64 fun i => AV.bool (N i)), (1, 259, Cont.top)], 17, 28⟩) (by kernel_rfl) (by kernel_rfl) ?_
    refine evC_seq ?_
    refine evC_go (dec := []) (ks := [(0, 1), (0, 2), (0, 3), (0, 6), (0, 7), (1, 0), (1, 64), (1, 128), (1, 192), (1, 193), (1, 194), (1, 195), (1, 259)]) (ps := [IsSc (fun i => AV.int IntKind.i64 (F i)) (fun i => AV.bool (G i)) (fun i => AV.int IntKind.i64 (E i)) fun i => AV.bool (N i), mayA F G = true, (0 : Int) ≤ id ∧ id < (67108864 : Int)]) (s' := ⟨[(0, 1, Cont.cell (AV.int IntKind.i64 team)), (0, 2, Cont.cell (AV.int IntKind.i64 id)), (0, 3, Cont.cell (AV.ptr 1 0)), (0, 6, Cont.cell (AV.int IntKind.i64 0)), (0, 7, Cont.cell (AV.int IntKind.i64 (thF F G id))), (1, 0, Cont.arr 64 fun i => AV.int IntKind.i64 (F i)), (1, 64, Cont.arr 64 fun i => AV.bool (G i)), (1, 128, Cont.arr 64 fun i => AV.int IntKind.i64 (E i)), (1, 192, Cont.cell (AV.int IntKind.i64 W)), (1, 193, Cont.cell (AV.int IntKind.i64 H)), (1, 194, Cont.cell (AV.int IntKind.i64 K)), (1, 195, Cont.arr 64 fun i => AV.bool (N i)), (1, 259, Cont.top)], 49, 28⟩) (by kernel_rfl) (by kernel_rfl) ?_ ?_
    · (simp only [All]; (repeat' apply And.intro) <;> (try intro _) <;> (try intro _) <;> (repeat' apply And.intro) <;> (try intro _) <;> (try intro _) <;> first | trivial | assumption | exact .inr trivial | exact .inr rfl | omega | rfl | exact ⟨_, rfl, rfl⟩ | exact ⟨rfl, rfl⟩ | exact ⟨fun _ => rfl, fun _ => rfl⟩ | (unfold maxLen; omega) | (unfold i64R; first | omega | decide) | decide)
    refine evC_go0 (dec := []) (ks := [(0, 1), (0, 2), (0, 3), (0, 6), (0, 7), (0, 13), (1, 0), (1, 64), (1, 128), (1, 192), (1, 193), (1, 194), (1, 195), (1, 259)]) (s' := ⟨[(0, 1, Cont.cell (AV.int IntKind.i64 team)), (0, 2, Cont.cell (AV.int IntKind.i64 id)), (0, 3, Cont.cell (AV.ptr 1 0)), (0, 6, Cont.cell (AV.int IntKind.i64 0)), (0, 7, Cont.cell (AV.int IntKind.i64 (thF F G id))), (0, 13, Cont.cell (AV.bool (thF F G id != 0))), (1, 0, Cont.arr 64 fun i => AV.int IntKind.i64 (F i)), (1, 64, Cont.arr 64 fun i => AV.bool (G i)), (1, 128, Cont.arr 64 fun i => AV.int IntKind.i64 (E i)), (1, 192, Cont.cell (AV.int IntKind.i64 W)), (1, 193, Cont.cell (AV.int IntKind.i64 H)), (1, 194, Cont.cell (AV.int IntKind.i64 K)), (1, 195, Cont.arr 64 fun i => AV.bool (N i)), (1, 259, Cont.top)], 65, 28⟩) (by kernel_rfl) (by kernel_rfl) ?_
    refine evC_if (q := thF F G id != 0) (by kernel_rfl) (fun hc => ?_) (fun hc => ?_)
    · refine evC_go0 (dec := []) (ks := [(0, 1), (0, 2), (0, 3), (0, 6), (1, 0), (1, 64), (1, 128), (1, 192), (1, 193), (1, 194), (1, 195), (1, 259)]) (s' := ⟨[(0, 1, Cont.cell (AV.int IntKind.i64 team)), (0, 2, Cont.cell (AV.int IntKind.i64 id)), (0, 3, Cont.cell (AV.ptr 1 0)), (0, 6, Cont.cell (AV.int IntKind.i64 (thF F G id))), (1, 0, Cont.arr 64 fun i => AV.int IntKind.i64 (F i)), (1, 64, Cont.arr 64 fun i => AV.bool (G i)), (1, 128, Cont.arr 64 fun i => AV.int IntKind.i64 (E i)), (1, 192, Cont.cell (AV.int IntKind.i64 W)), (1, 193, Cont.cell (AV.int IntKind.i64 H)), (1, 194, Cont.cell (AV.int IntKind.i64 K)), (1, 195, Cont.arr 64 fun i => AV.bool (N i)), (1, 259, Cont.top)], 81, 28⟩) (by kernel_rfl) (by kernel_rfl) ?_
      refine evC_ret ?_
      refine then_ret ?_
      refine post_ret ?_
      refine ends_flat (vs := [AV.int IntKind.i64 (thF F G id)]) (Nat.zero_lt_succ _) (by kernel_rfl) (flat_of _ (by kernel_rfl)) rfl ?_
      unfold tgF; rw [hc]; rfl
    · have h1 : (thF F G id != 0) = false := hc
      clear hc
      refine evC_skip ?_
      refine then_normal ?_
      refine evC_go0 (dec := []) (ks := [(0, 1), (0, 3), (0, 6), (0, 8), (1, 0), (1, 64), (1, 128), (1, 192), (1, 193), (1, 194), (1, 195), (1, 259)]) (s' := ⟨[(0, 1, Cont.cell (AV.int IntKind.i64 team)), (0, 3, Cont.cell (AV.ptr 1 0)), (0, 6, Cont.cell (AV.int IntKind.i64 0)), (0, 8, Cont.cell (AV.int IntKind.i64 (plF id))), (1, 0, Cont.arr 64 fun i => AV.int IntKind.i64 (F i)), (1, 64, Cont.arr 64 fun i => AV.bool (G i)), (1, 128, Cont.arr 64 fun i => AV.int IntKind.i64 (E i)), (1, 192, Cont.cell (AV.int IntKind.i64 W)), (1, 193, Cont.cell (AV.int IntKind.i64 H)), (1, 194, Cont.cell (AV.int IntKind.i64 K)), (1, 195, Cont.arr 64 fun i => AV.bool (N i)), (1, 259, Cont.top)], 89, 28⟩) (by kernel_rfl) (by kernel_rfl) ?_
      refine evC_seq ?_
      refine evC_go (dec := []) (ks := [(0, 3), (0, 6), (0, 8), (0, 22), (1, 0), (1, 64), (1, 128), (1, 192), (1, 193), (1, 194), (1, 195), (1, 259)]) (ps := [(0 : Int) ≤ plF id, plF id < (↑(64 : Nat) : Int), (0 : Int) ≤ plF id, plF id < (↑(64 : Nat) : Int)]) (s' := ⟨[(0, 3, Cont.cell (AV.ptr 1 0)), (0, 6, Cont.cell (AV.int IntKind.i64 0)), (0, 8, Cont.cell (AV.int IntKind.i64 (plF id))), (0, 22, Cont.cell (AV.bool (E (Int.toNat (plF id)) == team))), (1, 0, Cont.arr 64 fun i => AV.int IntKind.i64 (F i)), (1, 64, Cont.arr 64 fun i => AV.bool (G i)), (1, 128, Cont.arr 64 fun i => AV.int IntKind.i64 (E i)), (1, 192, Cont.cell (AV.int IntKind.i64 W)), (1, 193, Cont.cell (AV.int IntKind.i64 H)), (1, 194, Cont.cell (AV.int IntKind.i64 K)), (1, 195, Cont.arr 64 fun i => AV.bool (N i)), (1, 259, Cont.top)], 137, 28⟩) (by kernel_rfl) (by kernel_rfl) ?_ ?_
      · (simp only [All]; (repeat' apply And.intro) <;> (try intro _) <;> (try intro _) <;> (repeat' apply And.intro) <;> (try intro _) <;> (try intro _) <;> first | trivial | assumption | exact .inr trivial | exact .inr rfl | omega | rfl | exact ⟨_, rfl, rfl⟩ | exact ⟨rfl, rfl⟩ | exact ⟨fun _ => rfl, fun _ => rfl⟩ | (unfold maxLen; omega) | (unfold i64R; first | omega | decide) | decide)
      refine evC_if (q := E (Int.toNat (plF id)) == team) (by kernel_rfl) (fun hc => ?_) (fun hc => ?_)
      · refine evC_go0 (dec := []) (ks := [(0, 3), (0, 6), (0, 8), (1, 0), (1, 64), (1, 128), (1, 192), (1, 193), (1, 194), (1, 195), (1, 259)]) (s' := ⟨[(0, 3, Cont.cell (AV.ptr 1 0)), (0, 6, Cont.cell (AV.int IntKind.i64 11)), (0, 8, Cont.cell (AV.int IntKind.i64 (plF id))), (1, 0, Cont.arr 64 fun i => AV.int IntKind.i64 (F i)), (1, 64, Cont.arr 64 fun i => AV.bool (G i)), (1, 128, Cont.arr 64 fun i => AV.int IntKind.i64 (E i)), (1, 192, Cont.cell (AV.int IntKind.i64 W)), (1, 193, Cont.cell (AV.int IntKind.i64 H)), (1, 194, Cont.cell (AV.int IntKind.i64 K)), (1, 195, Cont.arr 64 fun i => AV.bool (N i)), (1, 259, Cont.top)], 145, 28⟩) (by kernel_rfl) (by kernel_rfl) ?_
        refine evC_ret ?_
        refine then_ret ?_
        refine post_ret ?_
        refine ends_flat (vs := [AV.int IntKind.i64 11]) (Nat.zero_lt_succ _) (by kernel_rfl) (flat_of _ (by kernel_rfl)) rfl ?_
        unfold tgF; rw [h1, hc]; rfl
      · have h2 : (E (plF id).toNat == team) = false := hc
        clear hc
        refine evC_skip ?_
        refine then_normal ?_
        refine evC_seq ?_
        refine evC_go (dec := []) (ks := [(0, 6), (0, 27)]) (ps := [(0 : Int) ≤ plF id, plF id < (↑(64 : Nat) : Int), (0 : Int) ≤ plF id, plF id < (↑(64 : Nat) : Int)]) (s' := ⟨[(0, 6, Cont.cell (AV.int IntKind.i64 0)), (0, 27, Cont.cell (AV.bool !N (Int.toNat (plF id))))], 177, 28⟩) (by kernel_rfl) (by kernel_rfl) ?_ ?_
        · (simp only [All]; (repeat' apply And.intro) <;> (try intro _) <;> (try intro _) <;> (repeat' apply And.intro) <;> (try intro _) <;> (try intro _) <;> first | trivial | assumption | exact .inr trivial | exact .inr rfl | omega | rfl | exact ⟨_, rfl, rfl⟩ | exact ⟨rfl, rfl⟩ | exact ⟨fun _ => rfl, fun _ => rfl⟩ | (unfold maxLen; omega) | (unfold i64R; first | omega | decide) | decide)
        refine evC_if (q := !N (Int.toNat (plF id))) (by kernel_rfl) (fun hc => ?_) (fun hc => ?_)
        · refine evC_go0 (dec := []) (ks := [(0, 6)]) (s' := ⟨[(0, 6, Cont.cell (AV.int IntKind.i64 13))], 185, 28⟩) (by kernel_rfl) (by kernel_rfl) ?_
          refine evC_ret ?_
          refine then_ret ?_
          refine post_ret ?_
          refine ends_flat (vs := [AV.int IntKind.i64 13]) (Nat.zero_lt_succ _) (by kernel_rfl) (flat_of _ (by kernel_rfl)) rfl ?_
          unfold tgF; rw [h1, h2, hc]; rfl
        · refine evC_skip ?_
          refine then_normal ?_
          refine evC_go0 (dec := []) (ks := [(0, 6)]) (s' := ⟨[(0, 6, Cont.cell (AV.int IntKind.i64 0))], 185, 28⟩) (by kernel_rfl) (by kernel_rfl) ?_
          refine evC_ret ?_
          refine post_ret ?_
          refine ends_flat (vs := [AV.int IntKind.i64 0]) (Nat.zero_lt_succ _) (by kernel_rfl) (flat_of _ (by kernel_rfl)) rfl ?_
          unfold tgF; rw [h1, h2, hc]; rfl
  · cases e
def chkF (F : Nat → Int) (G : Nat → Bool) (E : Nat → Int) (W H K : Int) (N : Nat → Bool) (team : Int) (q : Od) : Int :=
  bif !(mayS F G W H K && fO q) then 1 else bif thF F G q.2.1 != 0 then thF F G q.2.1 else bif E (plF q.2.1).toNat != team then 11 else
  bif q.1 == 0 then 0 else bif q.1 == 2 then tgF F G E N team q.2.2.2.2 else bif q.1 == 3 && decide (q.2.2.2.2 ≥ K) then 4 else
  bif decide (q.2.2.1 ≥ W) || decide (q.2.2.2.1 ≥ H) then 4 else 0
theorem fO_rng {q : Od} (h : fO q = true) : (0 ≤ q.2.1 ∧ q.2.1 < 67108864) ∧ (0 ≤ q.2.2.2.2 ∧ q.2.2.2.2 < 67108864) ∧ (0 ≤ q.2.2.1 ∧ q.2.2.1 < 64) ∧ (0 ≤ q.2.2.2.1 ∧ q.2.2.2.1 < 64) := by
  unfold fO frm inB at h
  simp only [Bool.and_eq_true, decide_eq_true_eq] at h
  omega
theorem fO_kind {q : Od} (h : fO q = true) : q.1 = 0 ∨ q.1 = 1 ∨ q.1 = 2 ∨ q.1 = 3 ∨ q.1 = 4 := by
  unfold fO frm at h
  simp only [Bool.and_eq_true] at h
  have h := h.2
  unfold frK at h
  by_cases h3 : q.1 = 3
  · omega
  by_cases h0 : q.1 = 0
  · omega
  by_cases h2 : q.1 = 2
  · omega
  by_cases h1 : q.1 = 1
  · omega
  by_cases h4 : q.1 = 4
  · omega
  simp [h0, h1, h2, h3, h4] at h
theorem mayS_may {F : Nat → Int} {G : Nat → Bool} {W H K : Int} (h : mayS F G W H K = true) : mayA F G = true := by
  unfold mayS at h
  simp only [Bool.and_eq_true] at h
  exact h.1.1.1
def sCheck : Spec := fun args _ _ => match args with
  | [.agg [.arr 64 f, .arr 64 g, .arr 64 e, .int .i64 W, .int .i64 H, .int .i64 K, .arr 64 n], .int .i64 team, .agg [.int .i64 k, .int .i64 u, .int .i64 i, .int .i64 j, .int .i64 t]] =>
    some ⟨[IsSc f g e n], .int .i64 (chkF (fun i => iv (f i)) (fun i => bv (g i)) (fun i => iv (e i)) W H K (fun i => bv (n i)) team (k, u, i, j, t)), [], []⟩
  | _ => none
theorem check_ok : SpecOK Try.prog 19 sCheck := by
  refine spec_own (by kernel_rfl) T_ok (sget_cons mayS_ok (sget_cons form_ok (sget_cons there_ok (sget_cons place_ok (sget_cons target_ok sget_nil))))) Try.func19 rfl rfl fun args hr nb out e => ?_
  unfold sCheck at e
  split at e
  · rename_i f g s W H K n team k u i j t
    injection e with e; subst e
    refine ⟨(fun _ h => nomatch h), true, [sc (fun i => iv (f i)) (fun i => bv (g i)) (fun i => iv (s i)) W H K (fun i => bv (n i)), .int .i64 team, od k u i j t], rfl, fun hs => ?_⟩
    have hA := hs _ List.mem_cons_self
    rw [hA.eq]
    generalize (fun i => iv (f i)) = F, (fun i => bv (g i)) = G, (fun i => iv (s i)) = E, (fun i => bv (n i)) = N
    clear hs hA
    refine ⟨.cons _ _ _ _ (.same _ _ (sc_flat F G E W H K N).has) (.cons _ _ _ _ (.same _ _ (.int _ _)) (.cons _ _ _ _ (.same _ _ (od_flat _ _ _ _ _).has) .nil)), ?_⟩
    have hA := isSc F G E N
    unfold sc od
    refine evC_go0 (dec := []) (ks := [(0, 1), (0, 3), (0, 5), (0, 6), (1, 0), (1, 64), (1, 128), (1, 192), (1, 193), (1, 194), (1, 195), (1, 259), (9, 0), (9, 1), (9, 2), (9, 3), (9, 4), (9, 5)]) (s' := ⟨[(0, 1, Cont.cell (AV.int IntKind.i64 team)), (0, 3, Cont.cell (AV.ptr 1 0)), (0, 5, Cont.cell (AV.ptr 9 0)), (0, 6, Cont.cell (AV.int IntKind.i64 0)), (1, 0, Cont.arr 64 fun i => AV.int IntKind.i64 (F i)), (1, 64, Cont.arr 64 fun i => AV.bool (G i)), (1, 128, Cont.arr 64 fun i => AV.int IntKind.i64 (E i)), (1, 192, Cont.cell (AV.int IntKind.i64 W)), (1, 193, Cont.cell (AV.int IntKind.i64 H)), (1, 194, Cont.cell (AV.int IntKind.i64 K)), (1, 195, Cont.arr 64 fun i => AV.bool (N i)), (1, 259, Cont.top), (9, 0, Cont.cell (AV.int IntKind.i64 k)), (9, 1, Cont.cell (AV.int IntKind.i64 u)), (9, 2, Cont.cell (AV.int IntKind.i64 i)), (9, 3, Cont.cell (AV.int IntKind.i64 j)), (9, 4, Cont.cell (AV.int IntKind.i64 t)), (9, 5, Cont.top)], 25, 61⟩) (by kernel_rfl) (by kernel_rfl) ?_
    refine evC_seq ?_
    refine evC_go (dec := []) (ks := [(0, 1), (0, 3), (0, 5), (0, 6), (0, 15), (1, 0), (1, 64), (1, 128), (1, 192), (1, 193), (1, 194), (1, 195), (1, 259), (9, 0), (9, 1), (9, 2), (9, 3), (9, 4), (9, 5)]) (ps := [IsSc (fun i => AV.int IntKind.i64 (F i)) (fun i => AV.bool (G i)) (fun i => AV.int IntKind.i64 (E i)) fun i => AV.bool (N i)]) (s' := ⟨[(0, 1, Cont.cell (AV.int IntKind.i64 team)), (0, 3, Cont.cell (AV.ptr 1 0)), (0, 5, Cont.cell (AV.ptr 9 0)), (0, 6, Cont.cell (AV.int IntKind.i64 0)), (0, 15, Cont.cell (AV.bool (bif !mayS F G W H K then true else !frm k u i j t))), (1, 0, Cont.arr 64 fun i => AV.int IntKind.i64 (F i)), (1, 64, Cont.arr 64 fun i => AV.bool (G i)), (1, 128, Cont.arr 64 fun i => AV.int IntKind.i64 (E i)), (1, 192, Cont.cell (AV.int IntKind.i64 W)), (1, 193, Cont.cell (AV.int IntKind.i64 H)), (1, 194, Cont.cell (AV.int IntKind.i64 K)), (1, 195, Cont.arr 64 fun i => AV.bool (N i)), (1, 259, Cont.top), (9, 0, Cont.cell (AV.int IntKind.i64 k)), (9, 1, Cont.cell (AV.int IntKind.i64 u)), (9, 2, Cont.cell (AV.int IntKind.i64 i)), (9, 3, Cont.cell (AV.int IntKind.i64 j)), (9, 4, Cont.cell (AV.int IntKind.i64 t)), (9, 5, Cont.top)], 89, 61⟩) (by kernel_rfl) (by kernel_rfl) ?_ ?_
    · (simp only [All]; (repeat' apply And.intro) <;> (try intro _) <;> (try intro _) <;> (repeat' apply And.intro) <;> (try intro _) <;> (try intro _) <;> first | trivial | assumption | exact .inr trivial | exact .inr rfl | omega | rfl | exact ⟨_, rfl, rfl⟩ | exact ⟨rfl, rfl⟩ | exact ⟨fun _ => rfl, fun _ => rfl⟩ | (unfold maxLen; omega) | (unfold i64R; first | omega | decide) | decide)
    have hq : fO (k, u, i, j, t) = frm k u i j t := rfl
    have e0 : (bif !mayS F G W H K then true else !frm k u i j t) = !(mayS F G W H K && fO (k, u, i, j, t)) := by
      rw [hq]; cases mayS F G W H K <;> rfl
    rw [e0]
    have ee : chkF F G E W H K N team (k, u, i, j, t) = bif !(mayS F G W H K && fO (k, u, i, j, t)) then 1 else bif thF F G u != 0 then thF F G u else bif E (plF u).toNat != team then 11 else
      bif k == 0 then 0 else bif k == 2 then tgF F G E N team t else bif k == 3 && decide (t ≥ K) then 4 else
      bif decide (i ≥ W) || decide (j ≥ H) then 4 else 0 := rfl
    rw [ee]
    clear ee e0 hq
    refine evC_if (q := !(mayS F G W H K && fO (k, u, i, j, t))) (by kernel_rfl) (fun hc => ?_) (fun hc => ?_)
    · rw [hc]
      refine evC_go0 (dec := []) (ks := [(0, 1), (0, 3), (0, 5), (0, 6), (1, 0), (1, 64), (1, 128), (1, 192), (1, 193), (1, 194), (1, 195), (1, 259), (9, 0), (9, 1), (9, 2), (9, 3), (9, 4), (9, 5)]) (s' := ⟨[(0, 1, Cont.cell (AV.int IntKind.i64 team)), (0, 3, Cont.cell (AV.ptr 1 0)), (0, 5, Cont.cell (AV.ptr 9 0)), (0, 6, Cont.cell (AV.int IntKind.i64 1)), (1, 0, Cont.arr 64 fun i => AV.int IntKind.i64 (F i)), (1, 64, Cont.arr 64 fun i => AV.bool (G i)), (1, 128, Cont.arr 64 fun i => AV.int IntKind.i64 (E i)), (1, 192, Cont.cell (AV.int IntKind.i64 W)), (1, 193, Cont.cell (AV.int IntKind.i64 H)), (1, 194, Cont.cell (AV.int IntKind.i64 K)), (1, 195, Cont.arr 64 fun i => AV.bool (N i)), (1, 259, Cont.top), (9, 0, Cont.cell (AV.int IntKind.i64 k)), (9, 1, Cont.cell (AV.int IntKind.i64 u)), (9, 2, Cont.cell (AV.int IntKind.i64 i)), (9, 3, Cont.cell (AV.int IntKind.i64 j)), (9, 4, Cont.cell (AV.int IntKind.i64 t)), (9, 5, Cont.top)], 97, 61⟩) (by kernel_rfl) (by kernel_rfl) ?_
      refine evC_ret ?_
      refine then_ret ?_
      refine post_ret ?_
      refine ends_flat (vs := [AV.int IntKind.i64 1]) (Nat.zero_lt_succ _) (by kernel_rfl) (flat_of _ (by kernel_rfl)) rfl ?_
      rfl
    · rw [hc]
      have hb := (Bool.not_eq_false' _).mp hc
      rw [Bool.and_eq_true] at hb
      have hm := mayS_may hb.1
      have hr1 := (fO_rng hb.2).1
      have hr2 := (fO_rng hb.2).2.1
      have hk := fO_kind hb.2
      clear hc hb
      simp only at hr1 hr2 hk
      have hp := plF_range u
      simp only [cond_false]
      refine evC_skip ?_
      refine then_normal ?_
      refine evC_seq ?_
      refine evC_go (dec := []) (ks := [(0, 1), (0, 3), (0, 5), (0, 6), (0, 7), (1, 0), (1, 64), (1, 128), (1, 192), (1, 193), (1, 194), (1, 195), (1, 259), (9, 0), (9, 1), (9, 2), (9, 3), (9, 4), (9, 5)]) (ps := [IsSc (fun i => AV.int IntKind.i64 (F i)) (fun i => AV.bool (G i)) (fun i => AV.int IntKind.i64 (E i)) fun i => AV.bool (N i), mayA F G = true, (0 : Int) ≤ u ∧ u < (67108864 : Int)]) (s' := ⟨[(0, 1, Cont.cell (AV.int IntKind.i64 team)), (0, 3, Cont.cell (AV.ptr 1 0)), (0, 5, Cont.cell (AV.ptr 9 0)), (0, 6, Cont.cell (AV.int IntKind.i64 0)), (0, 7, Cont.cell (AV.int IntKind.i64 (thF F G u))), (1, 0, Cont.arr 64 fun i => AV.int IntKind.i64 (F i)), (1, 64, Cont.arr 64 fun i => AV.bool (G i)), (1, 128, Cont.arr 64 fun i => AV.int IntKind.i64 (E i)), (1, 192, Cont.cell (AV.int IntKind.i64 W)), (1, 193, Cont.cell (AV.int IntKind.i64 H)), (1, 194, Cont.cell (AV.int IntKind.i64 K)), (1, 195, Cont.arr 64 fun i => AV.bool (N i)), (1, 259, Cont.top), (9, 0, Cont.cell (AV.int IntKind.i64 k)), (9, 1, Cont.cell (AV.int IntKind.i64 u)), (9, 2, Cont.cell (AV.int IntKind.i64 i)), (9, 3, Cont.cell (AV.int IntKind.i64 j)), (9, 4, Cont.cell (AV.int IntKind.i64 t)), (9, 5, Cont.top)], 129, 61⟩) (by kernel_rfl) (by kernel_rfl) ?_ ?_
      · (simp only [All]; (repeat' apply And.intro) <;> (try intro _) <;> (try intro _) <;> (repeat' apply And.intro) <;> (try intro _) <;> (try intro _) <;> first | trivial | assumption | exact .inr trivial | exact .inr rfl | omega | rfl | exact ⟨_, rfl, rfl⟩ | exact ⟨rfl, rfl⟩ | exact ⟨fun _ => rfl, fun _ => rfl⟩ | (unfold maxLen; omega) | (unfold i64R; first | omega | decide) | decide)
      refine evC_go0 (dec := []) (ks := [(0, 1), (0, 3), (0, 5), (0, 6), (0, 7), (0, 21), (1, 0), (1, 64), (1, 128), (1, 192), (1, 193), (1, 194), (1, 195), (1, 259), (9, 0), (9, 1), (9, 2), (9, 3), (9, 4), (9, 5)]) (s' := ⟨[(0, 1, Cont.cell (AV.int IntKind.i64 team)), (0, 3, Cont.cell (AV.ptr 1 0)), (0, 5, Cont.cell (AV.ptr 9 0)), (0, 6, Cont.cell (AV.int IntKind.i64 0)), (0, 7, Cont.cell (AV.int IntKind.i64 (thF F G u))), (0, 21, Cont.cell (AV.bool (thF F G u != 0))), (1, 0, Cont.arr 64 fun i => AV.int IntKind.i64 (F i)), (1, 64, Cont.arr 64 fun i => AV.bool (G i)), (1, 128, Cont.arr 64 fun i => AV.int IntKind.i64 (E i)), (1, 192, Cont.cell (AV.int IntKind.i64 W)), (1, 193, Cont.cell (AV.int IntKind.i64 H)), (1, 194, Cont.cell (AV.int IntKind.i64 K)), (1, 195, Cont.arr 64 fun i => AV.bool (N i)), (1, 259, Cont.top), (9, 0, Cont.cell (AV.int IntKind.i64 k)), (9, 1, Cont.cell (AV.int IntKind.i64 u)), (9, 2, Cont.cell (AV.int IntKind.i64 i)), (9, 3, Cont.cell (AV.int IntKind.i64 j)), (9, 4, Cont.cell (AV.int IntKind.i64 t)), (9, 5, Cont.top)], 145, 61⟩) (by kernel_rfl) (by kernel_rfl) ?_
      refine evC_if (q := thF F G u != 0) (by kernel_rfl) (fun hc => ?_) (fun hc => ?_)
      · rw [hc]
        refine evC_go0 (dec := []) (ks := [(0, 1), (0, 3), (0, 5), (0, 6), (1, 0), (1, 64), (1, 128), (1, 192), (1, 193), (1, 194), (1, 195), (1, 259), (9, 0), (9, 1), (9, 2), (9, 3), (9, 4), (9, 5)]) (s' := ⟨[(0, 1, Cont.cell (AV.int IntKind.i64 team)), (0, 3, Cont.cell (AV.ptr 1 0)), (0, 5, Cont.cell (AV.ptr 9 0)), (0, 6, Cont.cell (AV.int IntKind.i64 (thF F G u))), (1, 0, Cont.arr 64 fun i => AV.int IntKind.i64 (F i)), (1, 64, Cont.arr 64 fun i => AV.bool (G i)), (1, 128, Cont.arr 64 fun i => AV.int IntKind.i64 (E i)), (1, 192, Cont.cell (AV.int IntKind.i64 W)), (1, 193, Cont.cell (AV.int IntKind.i64 H)), (1, 194, Cont.cell (AV.int IntKind.i64 K)), (1, 195, Cont.arr 64 fun i => AV.bool (N i)), (1, 259, Cont.top), (9, 0, Cont.cell (AV.int IntKind.i64 k)), (9, 1, Cont.cell (AV.int IntKind.i64 u)), (9, 2, Cont.cell (AV.int IntKind.i64 i)), (9, 3, Cont.cell (AV.int IntKind.i64 j)), (9, 4, Cont.cell (AV.int IntKind.i64 t)), (9, 5, Cont.top)], 161, 61⟩) (by kernel_rfl) (by kernel_rfl) ?_
        refine evC_ret ?_
        refine then_ret ?_
        refine post_ret ?_
        refine ends_flat (vs := [AV.int IntKind.i64 (thF F G u)]) (Nat.zero_lt_succ _) (by kernel_rfl) (flat_of _ (by kernel_rfl)) rfl ?_
        rfl
      · rw [hc]
        clear hc
        simp only [cond_false]
        refine evC_skip ?_
        refine then_normal ?_
        refine evC_seq ?_
        refine evC_go (dec := []) (ks := [(0, 1), (0, 3), (0, 5), (0, 6), (0, 30), (1, 0), (1, 64), (1, 128), (1, 192), (1, 193), (1, 194), (1, 195), (1, 259), (9, 0), (9, 1), (9, 2), (9, 3), (9, 4), (9, 5)]) (ps := [(0 : Int) ≤ plF u, plF u < (↑(64 : Nat) : Int), (0 : Int) ≤ plF u, plF u < (↑(64 : Nat) : Int)]) (s' := ⟨[(0, 1, Cont.cell (AV.int IntKind.i64 team)), (0, 3, Cont.cell (AV.ptr 1 0)), (0, 5, Cont.cell (AV.ptr 9 0)), (0, 6, Cont.cell (AV.int IntKind.i64 0)), (0, 30, Cont.cell (AV.bool (E (Int.toNat (plF u)) != team))), (1, 0, Cont.arr 64 fun i => AV.int IntKind.i64 (F i)), (1, 64, Cont.arr 64 fun i => AV.bool (G i)), (1, 128, Cont.arr 64 fun i => AV.int IntKind.i64 (E i)), (1, 192, Cont.cell (AV.int IntKind.i64 W)), (1, 193, Cont.cell (AV.int IntKind.i64 H)), (1, 194, Cont.cell (AV.int IntKind.i64 K)), (1, 195, Cont.arr 64 fun i => AV.bool (N i)), (1, 259, Cont.top), (9, 0, Cont.cell (AV.int IntKind.i64 k)), (9, 1, Cont.cell (AV.int IntKind.i64 u)), (9, 2, Cont.cell (AV.int IntKind.i64 i)), (9, 3, Cont.cell (AV.int IntKind.i64 j)), (9, 4, Cont.cell (AV.int IntKind.i64 t)), (9, 5, Cont.top)], 209, 61⟩) (by kernel_rfl) (by kernel_rfl) ?_ ?_
        · (simp only [All]; (repeat' apply And.intro) <;> (try intro _) <;> (try intro _) <;> (repeat' apply And.intro) <;> (try intro _) <;> (try intro _) <;> first | trivial | assumption | exact .inr trivial | exact .inr rfl | omega | rfl | exact ⟨_, rfl, rfl⟩ | exact ⟨rfl, rfl⟩ | exact ⟨fun _ => rfl, fun _ => rfl⟩ | (unfold maxLen; omega) | (unfold i64R; first | omega | decide) | decide)
        refine evC_if (q := E (Int.toNat (plF u)) != team) (by kernel_rfl) (fun hc => ?_) (fun hc => ?_)
        · rw [hc]
          refine evC_go0 (dec := []) (ks := [(0, 1), (0, 3), (0, 5), (0, 6), (1, 0), (1, 64), (1, 128), (1, 192), (1, 193), (1, 194), (1, 195), (1, 259), (9, 0), (9, 1), (9, 2), (9, 3), (9, 4), (9, 5)]) (s' := ⟨[(0, 1, Cont.cell (AV.int IntKind.i64 team)), (0, 3, Cont.cell (AV.ptr 1 0)), (0, 5, Cont.cell (AV.ptr 9 0)), (0, 6, Cont.cell (AV.int IntKind.i64 11)), (1, 0, Cont.arr 64 fun i => AV.int IntKind.i64 (F i)), (1, 64, Cont.arr 64 fun i => AV.bool (G i)), (1, 128, Cont.arr 64 fun i => AV.int IntKind.i64 (E i)), (1, 192, Cont.cell (AV.int IntKind.i64 W)), (1, 193, Cont.cell (AV.int IntKind.i64 H)), (1, 194, Cont.cell (AV.int IntKind.i64 K)), (1, 195, Cont.arr 64 fun i => AV.bool (N i)), (1, 259, Cont.top), (9, 0, Cont.cell (AV.int IntKind.i64 k)), (9, 1, Cont.cell (AV.int IntKind.i64 u)), (9, 2, Cont.cell (AV.int IntKind.i64 i)), (9, 3, Cont.cell (AV.int IntKind.i64 j)), (9, 4, Cont.cell (AV.int IntKind.i64 t)), (9, 5, Cont.top)], 217, 61⟩) (by kernel_rfl) (by kernel_rfl) ?_
          refine evC_ret ?_
          refine then_ret ?_
          refine post_ret ?_
          refine ends_flat (vs := [AV.int IntKind.i64 11]) (Nat.zero_lt_succ _) (by kernel_rfl) (flat_of _ (by kernel_rfl)) rfl ?_
          rfl
        · rw [hc]
          clear hc
          simp only [cond_false]
          refine evC_skip ?_
          refine then_normal ?_
          refine evC_seq ?_
          refine evC_go0 (dec := []) (ks := [(0, 1), (0, 3), (0, 5), (0, 6), (0, 32), (1, 0), (1, 64), (1, 128), (1, 192), (1, 193), (1, 194), (1, 195), (1, 259), (9, 0), (9, 1), (9, 2), (9, 3), (9, 4), (9, 5)]) (s' := ⟨[(0, 1, Cont.cell (AV.int IntKind.i64 team)), (0, 3, Cont.cell (AV.ptr 1 0)), (0, 5, Cont.cell (AV.ptr 9 0)), (0, 6, Cont.cell (AV.int IntKind.i64 0)), (0, 32, Cont.cell (AV.int IntKind.i64 k)), (1, 0, Cont.arr 64 fun i => AV.int IntKind.i64 (F i)), (1, 64, Cont.arr 64 fun i => AV.bool (G i)), (1, 128, Cont.arr 64 fun i => AV.int IntKind.i64 (E i)), (1, 192, Cont.cell (AV.int IntKind.i64 W)), (1, 193, Cont.cell (AV.int IntKind.i64 H)), (1, 194, Cont.cell (AV.int IntKind.i64 K)), (1, 195, Cont.arr 64 fun i => AV.bool (N i)), (1, 259, Cont.top), (9, 0, Cont.cell (AV.int IntKind.i64 k)), (9, 1, Cont.cell (AV.int IntKind.i64 u)), (9, 2, Cont.cell (AV.int IntKind.i64 i)), (9, 3, Cont.cell (AV.int IntKind.i64 j)), (9, 4, Cont.cell (AV.int IntKind.i64 t)), (9, 5, Cont.top)], 225, 61⟩) (by kernel_rfl) (by kernel_rfl) ?_
          refine evC_block ?_
          refine evC_seq ?_
          refine evC_block ?_
          refine evC_seq ?_
          refine evC_block ?_
          refine evC_seq ?_
          refine evC_block ?_
          refine evC_seq ?_
          refine evC_block ?_
          refine evC_seq ?_
          refine evC_seq ?_
          refine evC_go0 (dec := []) (ks := [(0, 1), (0, 3), (0, 5), (0, 6), (0, 32), (0, 33), (1, 0), (1, 64), (1, 128), (1, 192), (1, 193), (1, 194), (1, 195), (1, 259), (9, 0), (9, 1), (9, 2), (9, 3), (9, 4), (9, 5)]) (s' := ⟨[(0, 1, Cont.cell (AV.int IntKind.i64 team)), (0, 3, Cont.cell (AV.ptr 1 0)), (0, 5, Cont.cell (AV.ptr 9 0)), (0, 6, Cont.cell (AV.int IntKind.i64 0)), (0, 32, Cont.cell (AV.int IntKind.i64 k)), (0, 33, Cont.cell (AV.bool (k == 0))), (1, 0, Cont.arr 64 fun i => AV.int IntKind.i64 (F i)), (1, 64, Cont.arr 64 fun i => AV.bool (G i)), (1, 128, Cont.arr 64 fun i => AV.int IntKind.i64 (E i)), (1, 192, Cont.cell (AV.int IntKind.i64 W)), (1, 193, Cont.cell (AV.int IntKind.i64 H)), (1, 194, Cont.cell (AV.int IntKind.i64 K)), (1, 195, Cont.arr 64 fun i => AV.bool (N i)), (1, 259, Cont.top), (9, 0, Cont.cell (AV.int IntKind.i64 k)), (9, 1, Cont.cell (AV.int IntKind.i64 u)), (9, 2, Cont.cell (AV.int IntKind.i64 i)), (9, 3, Cont.cell (AV.int IntKind.i64 j)), (9, 4, Cont.cell (AV.int IntKind.i64 t)), (9, 5, Cont.top)], 241, 61⟩) (by kernel_rfl) (by kernel_rfl) ?_
          refine evC_if (q := k == 0) (by kernel_rfl) (fun hc => ?_) (fun hc => ?_)
          · have h0 : (k == 0) = true := hc
            rw [h0]
            refine evC_exit ?_
            refine then_exit ?_
            refine then_exit ?_
            refine block_exit ?_
            refine then_normal ?_
            refine evC_seq ?_
            refine evC_go0 (dec := []) (ks := [(0, 1), (0, 3), (0, 5), (0, 6), (1, 0), (1, 64), (1, 128), (1, 192), (1, 193), (1, 194), (1, 195), (1, 259), (9, 0), (9, 1), (9, 2), (9, 3), (9, 4), (9, 5)]) (s' := ⟨[(0, 1, Cont.cell (AV.int IntKind.i64 team)), (0, 3, Cont.cell (AV.ptr 1 0)), (0, 5, Cont.cell (AV.ptr 9 0)), (0, 6, Cont.cell (AV.int IntKind.i64 0)), (1, 0, Cont.arr 64 fun i => AV.int IntKind.i64 (F i)), (1, 64, Cont.arr 64 fun i => AV.bool (G i)), (1, 128, Cont.arr 64 fun i => AV.int IntKind.i64 (E i)), (1, 192, Cont.cell (AV.int IntKind.i64 W)), (1, 193, Cont.cell (AV.int IntKind.i64 H)), (1, 194, Cont.cell (AV.int IntKind.i64 K)), (1, 195, Cont.arr 64 fun i => AV.bool (N i)), (1, 259, Cont.top), (9, 0, Cont.cell (AV.int IntKind.i64 k)), (9, 1, Cont.cell (AV.int IntKind.i64 u)), (9, 2, Cont.cell (AV.int IntKind.i64 i)), (9, 3, Cont.cell (AV.int IntKind.i64 j)), (9, 4, Cont.cell (AV.int IntKind.i64 t)), (9, 5, Cont.top)], 249, 61⟩) (by kernel_rfl) (by kernel_rfl) ?_
            refine evC_ret ?_
            refine then_ret ?_
            refine block_ret ?_
            refine then_ret ?_
            refine block_ret ?_
            refine then_ret ?_
            refine block_ret ?_
            refine then_ret ?_
            refine block_ret ?_
            refine then_ret ?_
            refine post_ret ?_
            refine ends_flat (vs := [AV.int IntKind.i64 0]) (Nat.zero_lt_succ _) (by kernel_rfl) (flat_of _ (by kernel_rfl)) rfl ?_
            rfl
          · have h0 : (k == 0) = false := hc
            rw [h0]
            clear hc
            simp only [cond_false]
            refine evC_skip ?_
            refine then_normal ?_
            refine evC_seq ?_
            refine evC_go0 (dec := []) (ks := [(0, 1), (0, 3), (0, 5), (0, 6), (0, 32), (0, 35), (1, 0), (1, 64), (1, 128), (1, 192), (1, 193), (1, 194), (1, 195), (1, 259), (9, 0), (9, 1), (9, 2), (9, 3), (9, 4), (9, 5)]) (s' := ⟨[(0, 1, Cont.cell (AV.int IntKind.i64 team)), (0, 3, Cont.cell (AV.ptr 1 0)), (0, 5, Cont.cell (AV.ptr 9 0)), (0, 6, Cont.cell (AV.int IntKind.i64 0)), (0, 32, Cont.cell (AV.int IntKind.i64 k)), (0, 35, Cont.cell (AV.bool (k == 2))), (1, 0, Cont.arr 64 fun i => AV.int IntKind.i64 (F i)), (1, 64, Cont.arr 64 fun i => AV.bool (G i)), (1, 128, Cont.arr 64 fun i => AV.int IntKind.i64 (E i)), (1, 192, Cont.cell (AV.int IntKind.i64 W)), (1, 193, Cont.cell (AV.int IntKind.i64 H)), (1, 194, Cont.cell (AV.int IntKind.i64 K)), (1, 195, Cont.arr 64 fun i => AV.bool (N i)), (1, 259, Cont.top), (9, 0, Cont.cell (AV.int IntKind.i64 k)), (9, 1, Cont.cell (AV.int IntKind.i64 u)), (9, 2, Cont.cell (AV.int IntKind.i64 i)), (9, 3, Cont.cell (AV.int IntKind.i64 j)), (9, 4, Cont.cell (AV.int IntKind.i64 t)), (9, 5, Cont.top)], 257, 61⟩) (by kernel_rfl) (by kernel_rfl) ?_
            refine evC_if (q := k == 2) (by kernel_rfl) (fun hc => ?_) (fun hc => ?_)
            · have h2 : (k == 2) = true := hc
              rw [h2]
              clear hc
              refine evC_exit ?_
              refine then_exit ?_
              refine then_exit ?_
              refine block_other rfl ?_
              refine then_exit ?_
              refine block_exit ?_
              refine then_normal ?_
              refine evC_seq ?_
              refine evC_go (dec := []) (ks := [(0, 3), (0, 5), (0, 6), (1, 0), (1, 64), (1, 128), (1, 192), (1, 193), (1, 194), (1, 195), (1, 259), (9, 0), (9, 1), (9, 2), (9, 3), (9, 4), (9, 5)]) (ps := [IsSc (fun i => AV.int IntKind.i64 (F i)) (fun i => AV.bool (G i)) (fun i => AV.int IntKind.i64 (E i)) fun i => AV.bool (N i), mayA F G = true, (0 : Int) ≤ t ∧ t < (67108864 : Int)]) (s' := ⟨[(0, 3, Cont.cell (AV.ptr 1 0)), (0, 5, Cont.cell (AV.ptr 9 0)), (0, 6, Cont.cell (AV.int IntKind.i64 (tgF F G E N team t))), (1, 0, Cont.arr 64 fun i => AV.int IntKind.i64 (F i)), (1, 64, Cont.arr 64 fun i => AV.bool (G i)), (1, 128, Cont.arr 64 fun i => AV.int IntKind.i64 (E i)), (1, 192, Cont.cell (AV.int IntKind.i64 W)), (1, 193, Cont.cell (AV.int IntKind.i64 H)), (1, 194, Cont.cell (AV.int IntKind.i64 K)), (1, 195, Cont.arr 64 fun i => AV.bool (N i)), (1, 259, Cont.top), (9, 0, Cont.cell (AV.int IntKind.i64 k)), (9, 1, Cont.cell (AV.int IntKind.i64 u)), (9, 2, Cont.cell (AV.int IntKind.i64 i)), (9, 3, Cont.cell (AV.int IntKind.i64 j)), (9, 4, Cont.cell (AV.int IntKind.i64 t)), (9, 5, Cont.top)], 305, 61⟩) (by kernel_rfl) (by kernel_rfl) ?_ ?_
              · (simp only [All]; (repeat' apply And.intro) <;> (try intro _) <;> (try intro _) <;> (repeat' apply And.intro) <;> (try intro _) <;> (try intro _) <;> first | trivial | assumption | exact .inr trivial | exact .inr rfl | omega | rfl | exact ⟨_, rfl, rfl⟩ | exact ⟨rfl, rfl⟩ | exact ⟨fun _ => rfl, fun _ => rfl⟩ | (unfold maxLen; omega) | (unfold i64R; first | omega | decide) | decide)
              refine evC_ret ?_
              refine then_ret ?_
              refine block_ret ?_
              refine then_ret ?_
              refine block_ret ?_
              refine then_ret ?_
              refine block_ret ?_
              refine then_ret ?_
              refine post_ret ?_
              refine ends_flat (vs := [AV.int IntKind.i64 (tgF F G E N team t)]) (Nat.zero_lt_succ _) (by kernel_rfl) (flat_of _ (by kernel_rfl)) rfl ?_
              rfl
            · have h2 : (k == 2) = false := hc
              rw [h2]
              clear hc
              simp only [cond_false]
              refine evC_skip ?_
              refine then_normal ?_
              refine evC_go0 (dec := []) (ks := [(0, 1), (0, 3), (0, 5), (0, 6), (0, 37), (1, 0), (1, 64), (1, 128), (1, 192), (1, 193), (1, 194), (1, 195), (1, 259), (9, 0), (9, 1), (9, 2), (9, 3), (9, 4), (9, 5)]) (s' := ⟨[(0, 1, Cont.cell (AV.int IntKind.i64 team)), (0, 3, Cont.cell (AV.ptr 1 0)), (0, 5, Cont.cell (AV.ptr 9 0)), (0, 6, Cont.cell (AV.int IntKind.i64 0)), (0, 37, Cont.cell (AV.bool (k == 3))), (1, 0, Cont.arr 64 fun i => AV.int IntKind.i64 (F i)), (1, 64, Cont.arr 64 fun i => AV.bool (G i)), (1, 128, Cont.arr 64 fun i => AV.int IntKind.i64 (E i)), (1, 192, Cont.cell (AV.int IntKind.i64 W)), (1, 193, Cont.cell (AV.int IntKind.i64 H)), (1, 194, Cont.cell (AV.int IntKind.i64 K)), (1, 195, Cont.arr 64 fun i => AV.bool (N i)), (1, 259, Cont.top), (9, 0, Cont.cell (AV.int IntKind.i64 k)), (9, 1, Cont.cell (AV.int IntKind.i64 u)), (9, 2, Cont.cell (AV.int IntKind.i64 i)), (9, 3, Cont.cell (AV.int IntKind.i64 j)), (9, 4, Cont.cell (AV.int IntKind.i64 t)), (9, 5, Cont.top)], 273, 61⟩) (by kernel_rfl) (by kernel_rfl) ?_
              refine evC_if (q := k == 3) (by kernel_rfl) (fun hc => ?_) (fun hc => ?_)
              · have h3 : (k == 3) = true := hc
                rw [h3]
                clear hc
                simp only [Bool.true_and]
                refine evC_exit ?_
                refine then_exit ?_
                refine block_other rfl ?_
                refine then_exit ?_
                refine block_other rfl ?_
                refine then_exit ?_
                refine block_exit ?_
                refine then_normal ?_
                refine evC_go0 (dec := []) (ks := [(0, 3), (0, 5), (0, 6), (0, 48), (1, 0), (1, 64), (1, 128), (1, 192), (1, 193), (1, 194), (1, 195), (1, 259), (9, 0), (9, 1), (9, 2), (9, 3), (9, 4), (9, 5)]) (s' := ⟨[(0, 3, Cont.cell (AV.ptr 1 0)), (0, 5, Cont.cell (AV.ptr 9 0)), (0, 6, Cont.cell (AV.int IntKind.i64 0)), (0, 48, Cont.cell (AV.bool (decide (t ≥ K)))), (1, 0, Cont.arr 64 fun i => AV.int IntKind.i64 (F i)), (1, 64, Cont.arr 64 fun i => AV.bool (G i)), (1, 128, Cont.arr 64 fun i => AV.int IntKind.i64 (E i)), (1, 192, Cont.cell (AV.int IntKind.i64 W)), (1, 193, Cont.cell (AV.int IntKind.i64 H)), (1, 194, Cont.cell (AV.int IntKind.i64 K)), (1, 195, Cont.arr 64 fun i => AV.bool (N i)), (1, 259, Cont.top), (9, 0, Cont.cell (AV.int IntKind.i64 k)), (9, 1, Cont.cell (AV.int IntKind.i64 u)), (9, 2, Cont.cell (AV.int IntKind.i64 i)), (9, 3, Cont.cell (AV.int IntKind.i64 j)), (9, 4, Cont.cell (AV.int IntKind.i64 t)), (9, 5, Cont.top)], 313, 61⟩) (by kernel_rfl) (by kernel_rfl) ?_
                refine evC_if (q := decide (t ≥ K)) (by kernel_rfl) (fun hc => ?_) (fun hc => ?_)
                · rw [hc]
                  refine evC_go0 (dec := []) (ks := [(0, 3), (0, 5), (0, 6), (1, 0), (1, 64), (1, 128), (1, 192), (1, 193), (1, 194), (1, 195), (1, 259), (9, 0), (9, 1), (9, 2), (9, 3), (9, 4), (9, 5)]) (s' := ⟨[(0, 3, Cont.cell (AV.ptr 1 0)), (0, 5, Cont.cell (AV.ptr 9 0)), (0, 6, Cont.cell (AV.int IntKind.i64 4)), (1, 0, Cont.arr 64 fun i => AV.int IntKind.i64 (F i)), (1, 64, Cont.arr 64 fun i => AV.bool (G i)), (1, 128, Cont.arr 64 fun i => AV.int IntKind.i64 (E i)), (1, 192, Cont.cell (AV.int IntKind.i64 W)), (1, 193, Cont.cell (AV.int IntKind.i64 H)), (1, 194, Cont.cell (AV.int IntKind.i64 K)), (1, 195, Cont.arr 64 fun i => AV.bool (N i)), (1, 259, Cont.top), (9, 0, Cont.cell (AV.int IntKind.i64 k)), (9, 1, Cont.cell (AV.int IntKind.i64 u)), (9, 2, Cont.cell (AV.int IntKind.i64 i)), (9, 3, Cont.cell (AV.int IntKind.i64 j)), (9, 4, Cont.cell (AV.int IntKind.i64 t)), (9, 5, Cont.top)], 321, 61⟩) (by kernel_rfl) (by kernel_rfl) ?_
                  refine evC_ret ?_
                  refine block_ret ?_
                  refine then_ret ?_
                  refine block_ret ?_
                  refine then_ret ?_
                  refine post_ret ?_
                  refine ends_flat (vs := [AV.int IntKind.i64 4]) (Nat.zero_lt_succ _) (by kernel_rfl) (flat_of _ (by kernel_rfl)) rfl ?_
                  rfl
                · rw [hc]
                  clear hc
                  simp only [cond_false]
                  refine evC_skip ?_
                  refine block_normal ?_
                  refine then_normal ?_
                  refine evC_seq ?_
                  refine evC_go0 (dec := []) (ks := [(0, 6), (0, 60)]) (s' := ⟨[(0, 6, Cont.cell (AV.int IntKind.i64 0)), (0, 60, Cont.cell (AV.bool (bif decide (i ≥ W) then true else decide (j ≥ H))))], 409, 61⟩) (by kernel_rfl) (by kernel_rfl) ?_
                  refine evC_if (q := bif decide (i ≥ W) then true else decide (j ≥ H)) (by kernel_rfl) (fun hc => ?_) (fun hc => ?_)
                  · rw [cond_or] at hc
                    rw [hc]
                    refine evC_go0 (dec := []) (ks := [(0, 6)]) (s' := ⟨[(0, 6, Cont.cell (AV.int IntKind.i64 4))], 417, 61⟩) (by kernel_rfl) (by kernel_rfl) ?_
                    refine evC_ret ?_
                    refine then_ret ?_
                    refine block_ret ?_
                    refine then_ret ?_
                    refine post_ret ?_
                    refine ends_flat (vs := [AV.int IntKind.i64 4]) (Nat.zero_lt_succ _) (by kernel_rfl) (flat_of _ (by kernel_rfl)) rfl ?_
                    rfl
                  · rw [cond_or] at hc
                    rw [hc]
                    refine evC_skip ?_
                    refine then_normal ?_
                    refine evC_exit ?_
                    refine block_exit ?_
                    refine then_normal ?_
                    refine evC_go0 (dec := []) (ks := [(0, 6)]) (s' := ⟨[(0, 6, Cont.cell (AV.int IntKind.i64 0))], 417, 61⟩) (by kernel_rfl) (by kernel_rfl) ?_
                    refine evC_ret ?_
                    refine post_ret ?_
                    refine ends_flat (vs := [AV.int IntKind.i64 0]) (Nat.zero_lt_succ _) (by kernel_rfl) (flat_of _ (by kernel_rfl)) rfl ?_
                    rfl
              · have h3 : (k == 3) = false := hc
                rw [h3]
                clear hc
                simp only [Bool.false_and, cond_false]
                refine evC_skip ?_
                refine then_normal ?_
                refine evC_exit ?_
                refine block_other rfl ?_
                refine then_exit ?_
                refine block_other rfl ?_
                refine then_exit ?_
                refine block_other rfl ?_
                refine then_exit ?_
                refine block_exit ?_
                refine then_normal ?_
                refine evC_seq ?_
                refine evC_go0 (dec := []) (ks := [(0, 6), (0, 60)]) (s' := ⟨[(0, 6, Cont.cell (AV.int IntKind.i64 0)), (0, 60, Cont.cell (AV.bool (bif decide (i ≥ W) then true else decide (j ≥ H))))], 369, 61⟩) (by kernel_rfl) (by kernel_rfl) ?_
                refine evC_if (q := bif decide (i ≥ W) then true else decide (j ≥ H)) (by kernel_rfl) (fun hc => ?_) (fun hc => ?_)
                · rw [cond_or] at hc
                  rw [hc]
                  refine evC_go0 (dec := []) (ks := [(0, 6)]) (s' := ⟨[(0, 6, Cont.cell (AV.int IntKind.i64 4))], 377, 61⟩) (by kernel_rfl) (by kernel_rfl) ?_
                  refine evC_ret ?_
                  refine then_ret ?_
                  refine block_ret ?_
                  refine then_ret ?_
                  refine post_ret ?_
                  refine ends_flat (vs := [AV.int IntKind.i64 4]) (Nat.zero_lt_succ _) (by kernel_rfl) (flat_of _ (by kernel_rfl)) rfl ?_
                  rfl
                · rw [cond_or] at hc
                  rw [hc]
                  refine evC_skip ?_
                  refine then_normal ?_
                  refine evC_exit ?_
                  refine block_exit ?_
                  refine then_normal ?_
                  refine evC_go0 (dec := []) (ks := [(0, 6)]) (s' := ⟨[(0, 6, Cont.cell (AV.int IntKind.i64 0))], 377, 61⟩) (by kernel_rfl) (by kernel_rfl) ?_
                  refine evC_ret ?_
                  refine post_ret ?_
                  refine ends_flat (vs := [AV.int IntKind.i64 0]) (Nat.zero_lt_succ _) (by kernel_rfl) (flat_of _ (by kernel_rfl)) rfl ?_
                  rfl
  · cases e
end Go.Eng.S22
