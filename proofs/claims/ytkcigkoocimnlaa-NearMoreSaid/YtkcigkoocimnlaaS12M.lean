/- Seat 12: the law NearWithin, walked. -/
import Derived.Test.YtkcigkoocimnlaaEngX
import Derived.Test.YtkcigkoocimnlaaS12L
import Derived.Test.YtkcigkoocimnlaaEngT
set_option linter.unusedSimpArgs false
set_option linter.unusedVariables false
namespace Go.Eng
/-- Rows of two numbers that came. -/
def rowW (f : Nat → List AV) : Nat → AV := c2 fun i => ofSc (f i)
theorem rowW_eq {w : World} {n : Nat} {f : Nat → List AV} {g : Nat → List Value} (h : ∀ i, i < n → DL w [.int .i64, .int .i64] (f i) (g i)) : (∀ i, i < n → ofSc (f i) = rowW f i) ∧ True := by
  refine ⟨fun i hi => ?_, trivial⟩
  obtain ⟨a, as1, v, vs1, e1, _, h1, t1⟩ := (h i hi).head
  obtain ⟨b, as2, _, vs2, e2, _, h2, t2⟩ := t1.head
  obtain ⟨e3, _⟩ := t2.done
  obtain ⟨a, rfl, _, _⟩ := h1.int_inv
  obtain ⟨b, rfl, _, _⟩ := h2.int_inv
  show ofSc (f i) = AV.agg [.int .i64 (cv 0 (ofSc (f i))), .int .i64 (cv 1 (ofSc (f i)))]
  rw [e1, e2, e3]
  rfl
end Go.Eng
namespace Go.Eng.S12
open Go.Proofs Go.IntWalk
set_option maxRecDepth 10000

/-- A contract by cases: where it speaks, one of two others says the same. -/
theorem spec_two {P : Program} {f : Nat} {s t u : Spec} (ht : SpecOK P f t) (hu : SpecOK P f u) (hr0 : ∀ args hr nb out, s args hr nb = some out → ∀ x ∈ out.rd, hr x.1 x.2.1 = some x.2.2)
    (h : ∀ args hr nb out, s args hr nb = some out → (∀ q ∈ out.sides, q) → ∃ sd, (∀ q ∈ sd, q) ∧ (t args hr nb = some ⟨sd, out.val, out.rd, out.up⟩ ∨ u args hr nb = some ⟨sd, out.val, out.rd, out.up⟩)) : SpecOK P f s := by
  refine ⟨ht.1, hr0, fun mine ρ ro hp w args xs hr nb out S hargs e hrd hs hnb hfr => ?_⟩
  obtain ⟨sd, h1, h2 | h2⟩ := h args hr nb out e hs
  · exact ht.2.2 mine ρ ro hp w args xs hr nb ⟨sd, out.val, out.rd, out.up⟩ S hargs h2 hrd h1 hnb hfr
  · exact hu.2.2 mine ρ ro hp w args xs hr nb ⟨sd, out.val, out.rd, out.up⟩ S hargs h2 hrd h1 hnb hfr
theorem few_len {n : Nat} {f : Nat → AV} : ((spL n f).take (fewN n)).length ≤ 258 := by
  rw [List.length_take, spL_len]; have := fewN_le n; omega
def sNearWithinB : Spec := fun args _ _ => match args with
  | [.agg [.rs 2 n false f, .int .i64 x, .int .i64 y, .int .i64 r]] => some ⟨[(∀ i, i < n → f i = spF (spL n f) i) ∧ n ≤ maxLen, mayB ((spL n f).take (fewN n)) = false], .bool true, [], []⟩
  | _ => none
def sNearWithinG : Spec := fun args _ _ => match args with
  | [.agg [.rs 2 n false f, .int .i64 x, .int .i64 y, .int .i64 r]] => some ⟨[(∀ i, i < n → f i = spF (spL n f) i) ∧ n ≤ maxLen, mayB ((spL n f).take (fewN n)) = true], .bool true, [], []⟩
  | _ => none
theorem asked_pass {hr : Rd} {rdl : List (Nat × Nat × Cont)} {nb : Nat} {n : Nat} {f : Nat → AV} (h1 : ∀ i, i < n → f i = spF (spL n f) i) {x y r : Int} : PassL hr rdl [] nb true [.agg [.rs 2 n false f, .int .i64 x, .int .i64 y, .int .i64 r]] [.agg [.rs 2 n false (spF (spL n f)), .int .i64 x, .int .i64 y, .int .i64 r]] := by
  refine .agg _ _ _ _ rfl (fun i a b h2 h3 => ?_) (fun k g hk => ?_) .nil
  · match i with
    | 0 => cases h2; cases h3; exact .rs _ _ _ _ _ _ fun i hi => ⟨h1 i hi, (spF_flat _ i).has⟩
    | 1 => cases h2; cases h3; exact .same _ _ (.int _ _)
    | 2 => cases h2; cases h3; exact .same _ _ (.int _ _)
    | 3 => cases h2; cases h3; exact .same _ _ (.int _ _)
    | i + 4 => simp at h2
  · simp only [List.mem_cons, List.not_mem_nil, or_false] at hk
    rcases hk with hk | hk | hk | hk <;> cases hk
theorem nearWithinB_ok : SpecOK Try.prog 3 sNearWithinB := by
  refine spec_own (by kernel_rfl) T_ok (sget_cons few_ok (sget_cons madeB_ok (sget_cons awake_ok sget_nil))) Try.func3 rfl rfl fun args hr nb out e => ?_
  unfold sNearWithinB at e
  split at e
  · rename_i n f x y r
    injection e with e; subst e
    refine ⟨(fun _ h => nomatch h), true, [.agg [.rs 2 n false (spF (spL n f)), .int .i64 x, .int .i64 y, .int .i64 r]], rfl, fun hs => ?_⟩
    obtain ⟨h1, h2⟩ := hs _ List.mem_cons_self
    have h3 := hs _ (List.mem_cons_of_mem _ List.mem_cons_self)
    refine ⟨asked_pass h1, ?_⟩
    clear hs h1
    have hq := @few_len n f
    have hn : spL n (spF (spL n f)) = spL n f := by
      have := spL_spF (spL n f)
      rwa [spL_len] at this
    refine evC_go0 (dec := []) (ks := [(0, 1), (0, 2), (1, 0), (1, 1), (1, 2), (1, 3), (1, 4)]) (s' := ⟨[(0, 1, Cont.cell (AV.ptr 1 0)), (0, 2, Cont.cell (AV.bool false)), (1, 0, Cont.cell (AV.rs 2 n false (spF (spL n f)))), (1, 1, Cont.cell (AV.int IntKind.i64 x)), (1, 2, Cont.cell (AV.int IntKind.i64 y)), (1, 3, Cont.cell (AV.int IntKind.i64 r)), (1, 4, Cont.top)], 65, 76⟩) (by kernel_rfl) (by kernel_rfl) ?_
    refine evC_go (dec := []) (ks := [(0, 2), (0, 3), (0, 4), (0, 5), (0, 6)]) (ps := [(∀ (i : Nat), i < n → spF (spL n f) i = spF (spL n (spF (spL n f))) i) ∧ n ≤ maxLen]) (s' := ⟨[(0, 2, Cont.cell (AV.bool false)), (0, 3, Cont.cell (AV.rs 2 (List.length (List.take (fewN n) (spL n (spF (spL n f))))) false (spF (List.take (fewN n) (spL n (spF (spL n f))))))), (0, 4, Cont.cell (AV.int IntKind.i64 x)), (0, 5, Cont.cell (AV.int IntKind.i64 y)), (0, 6, Cont.cell (AV.int IntKind.i64 r))], 481, 76⟩) (by kernel_rfl) (by kernel_rfl) ?_ ?_
    · exact ⟨fun i hi => by rw [hn], h2⟩
    rw [hn]
    generalize List.take (fewN n) (spL n f) = l at *
    refine evC_go (dec := []) (ks := [(0, 2), (0, 3), (0, 4), (0, 5), (0, 6), (0, 7), (0, 8)]) (ps := [(∀ (i : Nat), i < List.length l → spF l i = spF (spL (List.length l) (spF l)) i) ∧ List.length l ≤ (258 : Nat), mayB (spL (List.length l) (spF l)) = false]) (s' := ⟨[(0, 2, Cont.cell (AV.bool false)), (0, 3, Cont.cell (AV.rs 2 (List.length l) false (spF l))), (0, 4, Cont.cell (AV.int IntKind.i64 x)), (0, 5, Cont.cell (AV.int IntKind.i64 y)), (0, 6, Cont.cell (AV.int IntKind.i64 r)), (0, 7, Cont.cell AV.nilp), (0, 8, Cont.cell (AV.bool true))], 705, 76⟩) (by kernel_rfl) (by kernel_rfl) ?_ ?_
    · exact ⟨⟨fun i hi => by rw [spL_spF], hq⟩, by rw [spL_spF]; exact h3⟩
    refine evC_seq ?_
    refine evC_go0 (dec := []) (ks := [(0, 2), (0, 3), (0, 4), (0, 5), (0, 6), (0, 7), (0, 8), (0, 26)]) (s' := ⟨[(0, 2, Cont.cell (AV.bool false)), (0, 3, Cont.cell (AV.rs 2 (List.length l) false (spF l))), (0, 4, Cont.cell (AV.int IntKind.i64 x)), (0, 5, Cont.cell (AV.int IntKind.i64 y)), (0, 6, Cont.cell (AV.int IntKind.i64 r)), (0, 7, Cont.cell AV.nilp), (0, 8, Cont.cell (AV.bool true)), (0, 26, Cont.cell (AV.bool true))], 769, 76⟩) (by kernel_rfl) (by kernel_rfl) ?_
    refine evC_if (q := true) (by kernel_rfl) (fun hc => ?_) (fun hc => ?_)
    rotate_left
    · cases hc
    refine evC_go0 (dec := []) (ks := [(0, 2), (0, 3), (0, 4), (0, 5), (0, 6), (0, 7)]) (s' := ⟨[(0, 2, Cont.cell (AV.bool true)), (0, 3, Cont.cell (AV.rs 2 (List.length l) false (spF l))), (0, 4, Cont.cell (AV.int IntKind.i64 x)), (0, 5, Cont.cell (AV.int IntKind.i64 y)), (0, 6, Cont.cell (AV.int IntKind.i64 r)), (0, 7, Cont.cell AV.nilp)], 929, 76⟩) (by kernel_rfl) (by kernel_rfl) ?_
    refine evC_ret ?_
    refine then_ret ?_
    refine post_ret ?_
    refine ends_flat (vs := [AV.bool true]) (Nat.zero_lt_succ _) (by kernel_rfl) (flat_of _ (by kernel_rfl)) rfl ?_
    rfl
  · cases e
theorem okW_of {x y r : Int} (h : okW x y r = true) : InB x ∧ InB y ∧ InB r := by
  simpa [okW, inb_iff, and_assoc] using h
theorem nearWithinG_ok : SpecOK Try.prog 3 sNearWithinG := by
  refine spec_own (by kernel_rfl) T_ok (sget_cons few_ok (sget_cons madeG_ok (sget_cons awake_ok (sget_cons within_ok (sget_cons in_ok (sget_cons refWithin_ok (sget_cons same_ok sget_nil))))))) Try.func3 rfl rfl fun args hr nb out e => ?_
  unfold sNearWithinG at e
  split at e
  · rename_i n f x y r
    injection e with e; subst e
    refine ⟨(fun _ h => nomatch h), true, [.agg [.rs 2 n false (spF (spL n f)), .int .i64 x, .int .i64 y, .int .i64 r]], rfl, fun hs => ?_⟩
    obtain ⟨h1, h2⟩ := hs _ List.mem_cons_self
    have h3 := hs _ (List.mem_cons_of_mem _ List.mem_cons_self)
    refine ⟨asked_pass h1, ?_⟩
    clear hs h1
    have hq := @few_len n f
    have hn : spL n (spF (spL n f)) = spL n f := by
      have := spL_spF (spL n f)
      rwa [spL_len] at this
    refine evC_go0 (dec := []) (ks := [(0, 1), (0, 2), (1, 0), (1, 1), (1, 2), (1, 3), (1, 4)]) (s' := ⟨[(0, 1, Cont.cell (AV.ptr 1 0)), (0, 2, Cont.cell (AV.bool false)), (1, 0, Cont.cell (AV.rs 2 n false (spF (spL n f)))), (1, 1, Cont.cell (AV.int IntKind.i64 x)), (1, 2, Cont.cell (AV.int IntKind.i64 y)), (1, 3, Cont.cell (AV.int IntKind.i64 r)), (1, 4, Cont.top)], 65, 76⟩) (by kernel_rfl) (by kernel_rfl) ?_
    refine evC_go (dec := []) (ks := [(0, 2), (0, 3), (0, 4), (0, 5), (0, 6)]) (ps := [(∀ (i : Nat), i < n → spF (spL n f) i = spF (spL n (spF (spL n f))) i) ∧ n ≤ maxLen]) (s' := ⟨[(0, 2, Cont.cell (AV.bool false)), (0, 3, Cont.cell (AV.rs 2 (List.length (List.take (fewN n) (spL n (spF (spL n f))))) false (spF (List.take (fewN n) (spL n (spF (spL n f))))))), (0, 4, Cont.cell (AV.int IntKind.i64 x)), (0, 5, Cont.cell (AV.int IntKind.i64 y)), (0, 6, Cont.cell (AV.int IntKind.i64 r))], 481, 76⟩) (by kernel_rfl) (by kernel_rfl) ?_ ?_
    · exact ⟨fun i hi => by rw [hn], h2⟩
    rw [hn]
    generalize List.take (fewN n) (spL n f) = l at *
    have hl := mayB_iff.1 h3
    refine evC_go (dec := []) (ks := [(0, 2), (0, 3), (0, 4), (0, 5), (0, 6), (0, 7), (0, 8), (513, 0), (513, 1), (513, 2), (514, 0)]) (ps := [(∀ (i : Nat), i < List.length l → spF l i = spF (spL (List.length l) (spF l)) i) ∧ List.length l ≤ (258 : Nat), mayB (spL (List.length l) (spF l)) = true]) (s' := ⟨[(0, 2, Cont.cell (AV.bool false)), (0, 3, Cont.cell (AV.rs 2 (List.length l) false (spF l))), (0, 4, Cont.cell (AV.int IntKind.i64 x)), (0, 5, Cont.cell (AV.int IntKind.i64 y)), (0, 6, Cont.cell (AV.int IntKind.i64 r)), (0, 7, Cont.cell (AV.ptr 513 0)), (0, 8, Cont.cell (AV.bool true)), (513, 0, Cont.cell (AV.rs 2 (List.length (spL (List.length l) (spF l))) false (spF (spL (List.length l) (spF l))))), (513, 1, Cont.cell (AV.mp 514)), (513, 2, Cont.top), (514, 0, Cont.map 2 (qmap (sqN (spL (List.length l) (spF l)) (List.length (spL (List.length l) (spF l))))))], 705, 76⟩) (by kernel_rfl) (by kernel_rfl) ?_ ?_
    · exact ⟨⟨fun i hi => by rw [spL_spF], hq⟩, by rw [spL_spF]; exact h3⟩
    rw [spL_spF]
    refine evC_seq ?_
    refine evC_go0 (dec := []) (ks := [(0, 2), (0, 3), (0, 4), (0, 5), (0, 6), (0, 7), (0, 8), (0, 26), (513, 0), (513, 1), (513, 2), (514, 0)]) (s' := ⟨[(0, 2, Cont.cell (AV.bool false)), (0, 3, Cont.cell (AV.rs 2 (List.length l) false (spF l))), (0, 4, Cont.cell (AV.int IntKind.i64 x)), (0, 5, Cont.cell (AV.int IntKind.i64 y)), (0, 6, Cont.cell (AV.int IntKind.i64 r)), (0, 7, Cont.cell (AV.ptr 513 0)), (0, 8, Cont.cell (AV.bool true)), (0, 26, Cont.cell (AV.bool false)), (513, 0, Cont.cell (AV.rs 2 (List.length l) false (spF l))), (513, 1, Cont.cell (AV.mp 514)), (513, 2, Cont.top), (514, 0, Cont.map 2 (qmap (sqN l (List.length l))))], 769, 76⟩) (by kernel_rfl) (by kernel_rfl) ?_
    refine evC_if (q := false) (by kernel_rfl) (fun hc => ?_) (fun hc => ?_)
    · cases hc
    refine evC_skip ?_
    refine then_normal ?_
    refine evC_go (dec := []) (ks := [(0, 2), (0, 3), (0, 4), (0, 5), (0, 6), (0, 9), (0, 10)]) (ps := [((0 : Nat) < (513 : Nat) ∧ (0 : Nat) < (514 : Nat) ∧ (513 : Nat) ≠ (514 : Nat)) ∧ spF l = spF (spL (List.length l) (spF l)) ∧ qmap (sqN l (List.length l)) = qmap (sqN (spL (List.length l) (spF l)) (List.length (spL (List.length l) (spF l)))) ∧ InL (spL (List.length l) (spF l))]) (s' := ⟨[(0, 2, Cont.cell (AV.bool false)), (0, 3, Cont.cell (AV.rs 2 (List.length l) false (spF l))), (0, 4, Cont.cell (AV.int IntKind.i64 x)), (0, 5, Cont.cell (AV.int IntKind.i64 y)), (0, 6, Cont.cell (AV.int IntKind.i64 r)), (0, 9, Cont.cell (AV.rs 1 (List.length (witO (spL (List.length l) (spF l)) x y r)) false (lst (witO (spL (List.length l) (spF l)) x y r)))), (0, 10, Cont.cell (AV.int IntKind.i64 (errF (okW x y r))))], 1089, 76⟩) (by kernel_rfl) (by kernel_rfl) ?_ ?_
    · exact ⟨⟨by decide, by decide, by decide⟩, by rw [idx_eta], by rw [idx_eta], by rw [idx_eta]; exact hl⟩
    rw [idx_eta]
    refine evC_seq ?_
    refine evC_go0 (dec := []) (ks := [(0, 2), (0, 3), (0, 4), (0, 5), (0, 6), (0, 9), (0, 10), (0, 51)]) (s' := ⟨[(0, 2, Cont.cell (AV.bool false)), (0, 3, Cont.cell (AV.rs 2 (List.length l) false (spF l))), (0, 4, Cont.cell (AV.int IntKind.i64 x)), (0, 5, Cont.cell (AV.int IntKind.i64 y)), (0, 6, Cont.cell (AV.int IntKind.i64 r)), (0, 9, Cont.cell (AV.rs 1 (List.length (witO l x y r)) false (lst (witO l x y r)))), (0, 10, Cont.cell (AV.int IntKind.i64 (errF (okW x y r)))), (0, 51, Cont.cell (AV.bool (bif bif !inb x then true else !inb y then true else !inb r)))], 1505, 76⟩) (by kernel_rfl) (by kernel_rfl) ?_
    rw [cond_or, cond_or]
    have ho : (!inb x || !inb y || !inb r) = !okW x y r := by
      unfold okW; cases inb x <;> cases inb y <;> cases inb r <;> rfl
    rw [ho]
    refine evC_if (q := !okW x y r) (by kernel_rfl) (fun hc => ?_) (fun hc => ?_)
    · have ho : okW x y r = false := by simpa using hc
      have hv : witO l x y r = [] ∧ errF (okW x y r) = 1 := by unfold witO; rw [ho]; exact ⟨rfl, rfl⟩
      rw [hv.1, hv.2]
      refine evC_go0 (dec := []) (ks := [(0, 2), (0, 3), (0, 4), (0, 5), (0, 6), (0, 9), (0, 10)]) (s' := ⟨[(0, 2, Cont.cell (AV.bool true)), (0, 3, Cont.cell (AV.rs 2 (List.length l) false (spF l))), (0, 4, Cont.cell (AV.int IntKind.i64 x)), (0, 5, Cont.cell (AV.int IntKind.i64 y)), (0, 6, Cont.cell (AV.int IntKind.i64 r)), (0, 9, Cont.cell (AV.rs 1 0 false (lst []))), (0, 10, Cont.cell (AV.int IntKind.i64 1))], 1857, 76⟩) (by kernel_rfl) (by kernel_rfl) ?_
      refine evC_ret ?_
      refine then_ret ?_
      refine post_ret ?_
      refine ends_flat (vs := [AV.bool true]) (Nat.zero_lt_succ _) (by kernel_rfl) (flat_of _ (by kernel_rfl)) rfl ?_
      rfl
    · have ho : okW x y r = true := by simpa using hc
      have hv : witO l x y r = wit l x y r ∧ errF (okW x y r) = 0 := by unfold witO; rw [ho]; exact ⟨rfl, rfl⟩
      obtain ⟨hx, hy, hr1⟩ := okW_of ho
      rw [hv.1, hv.2]
      clear hc
      have hw : (wit l x y r).length ≤ 300 := Nat.le_trans (witN_len l x y r _) (by omega)
      refine evC_skip ?_
      refine then_normal ?_
      refine evC_go (dec := []) (ks := [(0, 2)]) (ps := [(∀ (i : Nat), i < List.length l → spF l i = spF (spL (List.length l) (spF l)) i) ∧ InL (spL (List.length l) (spF l)), InB x ∧ InB y ∧ InB r, (∀ (i : Nat), i < List.length (wit l x y r) → lst (wit l x y r) i = c1 (lst (wit l x y r)) i) ∧ (∀ (i : Nat), i < List.length (wit (spL (List.length l) (spF l)) x y r) → lst (wit (spL (List.length l) (spF l)) x y r) i = c1 (lst (wit (spL (List.length l) (spF l)) x y r)) i) ∧ List.length (wit l x y r) ≤ (300 : Nat) ∧ List.length (wit (spL (List.length l) (spF l)) x y r) ≤ (300 : Nat)]) (s' := ⟨[(0, 2, Cont.cell (AV.bool (bif bif eqL (List.length (wit l x y r)) (List.length (wit (spL (List.length l) (spF l)) x y r)) (lst (wit l x y r)) (lst (wit (spL (List.length l) (spF l)) x y r)) then 0 == 0 else false then true else false)))], 1985, 76⟩) (by kernel_rfl) (by kernel_rfl) ?_ ?_
      · rw [idx_eta]
        exact ⟨⟨fun i hi => rfl, hl⟩, ⟨hx, hy, hr1⟩, fun i hi => rfl, fun i hi => rfl, hw, hw⟩
      rw [idx_eta, eqL_lst, beq_self_eq_true]
      refine evC_ret ?_
      refine post_ret ?_
      refine ends_flat (vs := [AV.bool true]) (Nat.zero_lt_succ _) (by kernel_rfl) (flat_of _ (by kernel_rfl)) rfl ?_
      rfl
  · cases e
theorem c2_sp {n : Nat} {f : Nat → AV} (h : ∀ i, i < n → f i = c2 f i) : ∀ i, i < n → f i = spF (spL n f) i := fun i hi => by
  rw [h i hi]
  show _ = AV.agg [.int .i64 ((spL n f).getD i (0, 0)).1, .int .i64 ((spL n f).getD i (0, 0)).2]
  rw [spL_get n f hi]
  rfl
def sNearWithin : Spec := fun args _ _ => match args with
  | [.agg [.rs 2 n false f, .int .i64 x, .int .i64 y, .int .i64 r]] => some ⟨[(∀ i, i < n → f i = c2 f i) ∧ n ≤ maxLen], .bool true, [], []⟩
  | _ => none
/-- NearWithin answers true, whatever it is asked. -/
theorem nearWithin_ok : SpecOK Try.prog 3 sNearWithin := by
  refine spec_two nearWithinB_ok nearWithinG_ok (fun args hr nb out e x hx => ?_) fun args hr nb out e hs => ?_
  · unfold sNearWithin at e
    split at e
    · injection e with e; subst e; cases hx
    · cases e
  · unfold sNearWithin at e
    split at e
    · rename_i n f x y r
      injection e with e; subst e
      have h1 := hs _ List.mem_cons_self
      have h1 : (∀ i, i < n → f i = spF (spL n f) i) ∧ n ≤ maxLen := ⟨c2_sp h1.1, h1.2⟩
      cases h : mayB ((spL n f).take (fewN n)) with
      | false => exact ⟨[_, _], fun q hq => (by
          rcases List.mem_cons.1 hq with rfl | hq
          · exact h1
          · rw [List.mem_singleton.1 hq]; exact h), .inl rfl⟩
      | true => exact ⟨[_, _], fun q hq => (by
          rcases List.mem_cons.1 hq with rfl | hq
          · exact h1
          · rw [List.mem_singleton.1 hq]; exact h), .inr rfl⟩
    · cases e
end Go.Eng.S12
