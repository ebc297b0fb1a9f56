/- Seat 11: the laws ArenaTakes, ArenaFrees and ArenaTells, walked. -/
import Derived.Test.YtmpaaanbahfmcaaEngX
import Derived.Test.YtmpaaanbahfmcaaS11B
set_option linter.unusedSimpArgs false
set_option linter.unusedVariables false
namespace Go.Eng.S11
open Go.Proofs Go.IntWalk
set_option maxRecDepth 10000

theorem all_same {α : Type} [BEq α] [ReflBEq α] (n : Nat) (f : Nat → α) : ((List.range n).all fun i => f i == f i) = true := all_true fun i _ => by simp
theorem room_spec {F : Nat → Int} {G : Nat → Bool} (h : room F G < 64) : roomC F G (room F G) = true := by
  cases hc : (List.range 64).all (fun p => !roomC F G p) with
  | true =>
    have := room_none (F := F) (G := G) fun j hj => by simpa using all_get hc hj
    omega
  | false =>
    -- there is a first one
    have key : ∀ n, n ≤ 64 → (∀ j, j < n → roomC F G j = false) ∨ ∃ i, i < n ∧ (∀ j, j < i → roomC F G j = false) ∧ roomC F G i = true := by
      intro n
      induction n with
      | zero => intro _; exact .inl fun j hj => absurd hj (Nat.not_lt_zero j)
      | succ n ih =>
        intro hn
        rcases ih (by omega) with h1 | ⟨i, h1, h2, h3⟩
        · cases hr : roomC F G n with
          | true => exact .inr ⟨n, by omega, h1, hr⟩
          | false =>
            refine .inl fun j hj => ?_
            rcases Nat.lt_or_ge j n with h | h
            · exact h1 j h
            · have : j = n := by omega
              subst this; exact hr
        · exact .inr ⟨i, by omega, h2, h3⟩
    rcases key 64 (Nat.le_refl _) with h1 | ⟨i, h1, h2, h3⟩
    · have := room_none h1; omega
    · rw [room_at h1 h2 h3]; exact h3

def sArenaTakes : Spec := fun args _ _ => match args with
  | [.agg [.arr 64 f, .arr 64 g]] => some ⟨[IsAr f g], .bool true, [], []⟩
  | _ => none
theorem arenaTakes_ok : SpecOK Try.prog 3 sArenaTakes := by
  refine spec_own (by kernel_rfl) T_ok (sget_cons take_ok (sget_cons may_ok (sget_cons refMay_ok (sget_cons room_ok (sget_cons last_ok (sget_cons awake_ok sget_nil)))))) Try.func3 rfl rfl fun args hr nb out e => ?_
  unfold sArenaTakes at e
  split at e
  · rename_i f g
    injection e with e; subst e
    refine ⟨(fun _ h => nomatch h), true, [ar (fun i => iv (f i)) (fun i => bv (g i))], rfl, fun hs => ?_⟩
    have ha := hs _ List.mem_cons_self
    rw [ha.eq]
    clear hs ha
    generalize (fun i => iv (f i)) = F
    generalize (fun i => bv (g i)) = G
    refine ⟨.cons _ _ _ _ (.same _ _ (ar_flat F G).has) .nil, ?_⟩
    refine evC_go0 (dec := []) (ks := [(0, 1), (0, 2), (1, 0), (1, 64), (1, 128)]) (s' := ⟨[(0, 1, Cont.cell (AV.ptr 1 0)), (0, 2, Cont.cell (AV.bool false)), (1, 0, Cont.arr 64 fun i => AV.int IntKind.i64 (F i)), (1, 64, Cont.arr 64 fun i => AV.bool (G i)), (1, 128, Cont.top)], 17, 80⟩) (by kernel_rfl) (by kernel_rfl) ?_
    refine evC_go (dec := []) (ks := [(0, 1), (0, 2), (0, 3), (0, 4), (0, 5), (1, 0), (1, 64), (1, 128), (65, 0), (65, 64), (65, 128)]) (ps := [IsAr (fun i => AV.int IntKind.i64 (F i)) fun i => AV.bool (G i)]) (s' := ⟨[(0, 1, Cont.cell (AV.ptr 1 0)), (0, 2, Cont.cell (AV.bool false)), (0, 3, Cont.cell (AV.ptr 65 0)), (0, 4, Cont.cell (AV.int IntKind.i64 (tkN F G))), (0, 5, Cont.cell (AV.int IntKind.i64 (tkE F G))), (1, 0, Cont.arr 64 fun i => AV.int IntKind.i64 (F i)), (1, 64, Cont.arr 64 fun i => AV.bool (G i)), (1, 128, Cont.top), (65, 0, Cont.arr 64 fun i => AV.int IntKind.i64 (tkT F G i)), (65, 64, Cont.arr 64 fun i => AV.bool (tkL F G i)), (65, 128, Cont.top)], 97, 80⟩) (by kernel_rfl) (by kernel_rfl) ?_ ?_
    · (simp only [All]; (repeat' apply And.intro) <;> (try intro _) <;> (try intro _) <;> first | trivial | assumption | omega | rfl | exact ⟨_, rfl, rfl⟩ | exact ⟨rfl, rfl⟩ | exact ⟨fun _ => rfl, fun _ => rfl⟩ | (unfold maxLen; omega) | (unfold i64R; first | omega | decide) | decide)
    refine evC_seq ?_
    refine evC_go (dec := []) (ks := [(0, 1), (0, 2), (0, 3), (0, 4), (0, 5), (0, 17), (1, 0), (1, 64), (1, 128), (65, 0), (65, 64), (65, 128)]) (ps := [IsAr (fun i => AV.int IntKind.i64 (F i)) fun i => AV.bool (G i), IsAr (fun i => AV.int IntKind.i64 (F i)) fun i => AV.bool (G i)]) (s' := ⟨[(0, 1, Cont.cell (AV.ptr 1 0)), (0, 2, Cont.cell (AV.bool false)), (0, 3, Cont.cell (AV.ptr 65 0)), (0, 4, Cont.cell (AV.int IntKind.i64 (tkN F G))), (0, 5, Cont.cell (AV.int IntKind.i64 (tkE F G))), (0, 17, Cont.cell (AV.bool !mayA F G == mayA F G)), (1, 0, Cont.arr 64 fun i => AV.int IntKind.i64 (F i)), (1, 64, Cont.arr 64 fun i => AV.bool (G i)), (1, 128, Cont.top), (65, 0, Cont.arr 64 fun i => AV.int IntKind.i64 (tkT F G i)), (65, 64, Cont.arr 64 fun i => AV.bool (tkL F G i)), (65, 128, Cont.top)], 137, 80⟩) (by kernel_rfl) (by kernel_rfl) ?_ ?_
    · (simp only [All]; (repeat' apply And.intro) <;> (try intro _) <;> (try intro _) <;> first | trivial | assumption | omega | rfl | exact ⟨_, rfl, rfl⟩ | exact ⟨rfl, rfl⟩ | exact ⟨fun _ => rfl, fun _ => rfl⟩ | (unfold maxLen; omega) | (unfold i64R; first | omega | decide) | decide)
    refine evC_if (q := !mayA F G == mayA F G) (by kernel_rfl) (fun hc => ?_) (fun hc => ?_)
    · simp at hc
    clear hc
    refine evC_skip ?_
    refine then_normal ?_
    refine evC_seq ?_
    refine evC_go (dec := []) (ks := [(0, 1), (0, 2), (0, 3), (0, 4), (0, 5), (0, 20), (1, 0), (1, 64), (1, 128), (65, 0), (65, 64), (65, 128)]) (ps := [IsAr (fun i => AV.int IntKind.i64 (F i)) fun i => AV.bool (G i)]) (s' := ⟨[(0, 1, Cont.cell (AV.ptr 1 0)), (0, 2, Cont.cell (AV.bool false)), (0, 3, Cont.cell (AV.ptr 65 0)), (0, 4, Cont.cell (AV.int IntKind.i64 (tkN F G))), (0, 5, Cont.cell (AV.int IntKind.i64 (tkE F G))), (0, 20, Cont.cell (AV.bool !mayA F G)), (1, 0, Cont.arr 64 fun i => AV.int IntKind.i64 (F i)), (1, 64, Cont.arr 64 fun i => AV.bool (G i)), (1, 128, Cont.top), (65, 0, Cont.arr 64 fun i => AV.int IntKind.i64 (tkT F G i)), (65, 64, Cont.arr 64 fun i => AV.bool (tkL F G i)), (65, 128, Cont.top)], 161, 80⟩) (by kernel_rfl) (by kernel_rfl) ?_ ?_
    · (simp only [All]; (repeat' apply And.intro) <;> (try intro _) <;> (try intro _) <;> first | trivial | assumption | omega | rfl | exact ⟨_, rfl, rfl⟩ | exact ⟨rfl, rfl⟩ | exact ⟨fun _ => rfl, fun _ => rfl⟩ | (unfold maxLen; omega) | (unfold i64R; first | omega | decide) | decide)
    refine evC_if (q := !mayA F G) (by kernel_rfl) (fun hc => ?_) (fun hc => ?_)
    · have hm : mayA F G = false := (Bool.not_eq_true' _).mp hc
      have e1 : okT F G = false := by unfold okT; rw [hm]; rfl
      refine evC_go (dec := []) (ks := [(0, 1), (0, 2), (0, 3), (0, 4), (0, 5), (1, 0), (1, 64), (1, 128), (65, 0), (65, 64), (65, 128)]) (ps := [∀ (i : Nat), i < (64 : Nat) → ∃ q, AV.int IntKind.i64 (tkT F G i) = AV.int q (tkT F G i) ∧ AV.int IntKind.i64 (0 : Int) = AV.int q (0 : Int), ∀ (i : Nat), i < (64 : Nat) → AV.bool (tkL F G i) = AV.bool (tkL F G i) ∧ AV.bool false = AV.bool false]) (s' := ⟨[(0, 1, Cont.cell (AV.ptr 1 0)), (0, 2, Cont.cell (AV.bool (bif bif bif (List.all (List.range 64) fun i => tkT F G i == 0) && ((List.all (List.range 64) fun i => tkL F G i == false) && true) then tkN F G == 0 else false then tkE F G == 1 else false then true else false))), (0, 3, Cont.cell (AV.ptr 65 0)), (0, 4, Cont.cell (AV.int IntKind.i64 (tkN F G))), (0, 5, Cont.cell (AV.int IntKind.i64 (tkE F G))), (1, 0, Cont.arr 64 fun i => AV.int IntKind.i64 (F i)), (1, 64, Cont.arr 64 fun i => AV.bool (G i)), (1, 128, Cont.top), (65, 0, Cont.arr 64 fun i => AV.int IntKind.i64 (tkT F G i)), (65, 64, Cont.arr 64 fun i => AV.bool (tkL F G i)), (65, 128, Cont.top)], 281, 80⟩) (by kernel_rfl) (by kernel_rfl) ?_ ?_
      · (simp only [All]; (repeat' apply And.intro) <;> (try intro _) <;> (try intro _) <;> first | trivial | assumption | omega | rfl | exact ⟨_, rfl, rfl⟩ | exact ⟨rfl, rfl⟩ | exact ⟨fun _ => rfl, fun _ => rfl⟩ | (unfold maxLen; omega) | (unfold i64R; first | omega | decide) | decide)
      refine evC_ret ?_
      refine then_ret ?_
      refine post_ret ?_
      refine ends_flat (vs := [AV.bool (bif bif bif (List.all (List.range 64) fun i => tkT F G i == 0) && ((List.all (List.range 64) fun i => tkL F G i == false) && true) then tkN F G == 0 else false then tkE F G == 1 else false then true else false)]) (Nat.zero_lt_succ _) (by kernel_rfl) (flat_of _ (by kernel_rfl)) rfl ?_
      refine congrArg AV.bool ?_
      unfold tkT tkL tkN tkE
      rw [e1, hm]
      simp only [cond_false]
      rfl
    · have hm : mayA F G = true := (Bool.not_eq_false' _).mp hc
      clear hc
      refine evC_skip ?_
      refine then_normal ?_
      refine evC_go (dec := []) (ks := [(0, 1), (0, 2), (0, 3), (0, 4), (0, 5), (0, 6), (1, 0), (1, 64), (1, 128), (65, 0), (65, 64), (65, 128)]) (ps := [IsAr (fun i => AV.int IntKind.i64 (F i)) fun i => AV.bool (G i)]) (s' := ⟨[(0, 1, Cont.cell (AV.ptr 1 0)), (0, 2, Cont.cell (AV.bool false)), (0, 3, Cont.cell (AV.ptr 65 0)), (0, 4, Cont.cell (AV.int IntKind.i64 (tkN F G))), (0, 5, Cont.cell (AV.int IntKind.i64 (tkE F G))), (0, 6, Cont.cell (AV.int IntKind.i64 (bif Nat.blt (room F G) 64 then (↑(room F G) : Int) else -1))), (1, 0, Cont.arr 64 fun i => AV.int IntKind.i64 (F i)), (1, 64, Cont.arr 64 fun i => AV.bool (G i)), (1, 128, Cont.top), (65, 0, Cont.arr 64 fun i => AV.int IntKind.i64 (tkT F G i)), (65, 64, Cont.arr 64 fun i => AV.bool (tkL F G i)), (65, 128, Cont.top)], 185, 80⟩) (by kernel_rfl) (by kernel_rfl) ?_ ?_
      · (simp only [All]; (repeat' apply And.intro) <;> (try intro _) <;> (try intro _) <;> first | trivial | assumption | omega | rfl | exact ⟨_, rfl, rfl⟩ | exact ⟨rfl, rfl⟩ | exact ⟨fun _ => rfl, fun _ => rfl⟩ | (unfold maxLen; omega) | (unfold i64R; first | omega | decide) | decide)
      cases hb : Nat.blt (room F G) 64 with
      | false =>
        have e1 : okT F G = false := by unfold okT; rw [hm, hb]; rfl
        simp only [cond_false]
        refine evC_seq ?_
        refine evC_go0 (dec := []) (ks := [(0, 1), (0, 2), (0, 3), (0, 4), (0, 5), (0, 6), (0, 38), (1, 0), (1, 64), (1, 128), (65, 0), (65, 64), (65, 128)]) (s' := ⟨[(0, 1, Cont.cell (AV.ptr 1 0)), (0, 2, Cont.cell (AV.bool false)), (0, 3, Cont.cell (AV.ptr 65 0)), (0, 4, Cont.cell (AV.int IntKind.i64 (tkN F G))), (0, 5, Cont.cell (AV.int IntKind.i64 (tkE F G))), (0, 6, Cont.cell (AV.int IntKind.i64 (-1))), (0, 38, Cont.cell (AV.bool true)), (1, 0, Cont.arr 64 fun i => AV.int IntKind.i64 (F i)), (1, 64, Cont.arr 64 fun i => AV.bool (G i)), (1, 128, Cont.top), (65, 0, Cont.arr 64 fun i => AV.int IntKind.i64 (tkT F G i)), (65, 64, Cont.arr 64 fun i => AV.bool (tkL F G i)), (65, 128, Cont.top)], 201, 80⟩) (by kernel_rfl) (by kernel_rfl) ?_
        refine evC_if (q := true) (by kernel_rfl) (fun hc => ?_) (fun hc => ?_)
        · refine evC_go (dec := []) (ks := [(0, 1), (0, 2), (0, 3), (0, 4), (0, 5), (0, 6), (1, 0), (1, 64), (1, 128), (65, 0), (65, 64), (65, 128)]) (ps := [∀ (i : Nat), i < (64 : Nat) → ∃ q, AV.int IntKind.i64 (tkT F G i) = AV.int q (tkT F G i) ∧ AV.int IntKind.i64 (0 : Int) = AV.int q (0 : Int), ∀ (i : Nat), i < (64 : Nat) → AV.bool (tkL F G i) = AV.bool (tkL F G i) ∧ AV.bool false = AV.bool false]) (s' := ⟨[(0, 1, Cont.cell (AV.ptr 1 0)), (0, 2, Cont.cell (AV.bool (bif bif bif (List.all (List.range 64) fun i => tkT F G i == 0) && ((List.all (List.range 64) fun i => tkL F G i == false) && true) then tkN F G == 0 else false then tkE F G == 5 else false then true else false))), (0, 3, Cont.cell (AV.ptr 65 0)), (0, 4, Cont.cell (AV.int IntKind.i64 (tkN F G))), (0, 5, Cont.cell (AV.int IntKind.i64 (tkE F G))), (0, 6, Cont.cell (AV.int IntKind.i64 (-1))), (1, 0, Cont.arr 64 fun i => AV.int IntKind.i64 (F i)), (1, 64, Cont.arr 64 fun i => AV.bool (G i)), (1, 128, Cont.top), (65, 0, Cont.arr 64 fun i => AV.int IntKind.i64 (tkT F G i)), (65, 64, Cont.arr 64 fun i => AV.bool (tkL F G i)), (65, 128, Cont.top)], 321, 80⟩) (by kernel_rfl) (by kernel_rfl) ?_ ?_
          · (simp only [All]; (repeat' apply And.intro) <;> (try intro _) <;> (try intro _) <;> first | trivial | assumption | omega | rfl | exact ⟨_, rfl, rfl⟩ | exact ⟨rfl, rfl⟩ | exact ⟨fun _ => rfl, fun _ => rfl⟩ | (unfold maxLen; omega) | (unfold i64R; first | omega | decide) | decide)
          refine evC_ret ?_
          refine then_ret ?_
          refine post_ret ?_
          refine ends_flat (vs := [AV.bool (bif bif bif (List.all (List.range 64) fun i => tkT F G i == 0) && ((List.all (List.range 64) fun i => tkL F G i == false) && true) then tkN F G == 0 else false then tkE F G == 5 else false then true else false)]) (Nat.zero_lt_succ _) (by kernel_rfl) (flat_of _ (by kernel_rfl)) rfl ?_
          refine congrArg AV.bool ?_
          unfold tkT tkL tkN tkE
          rw [e1, hm, hb]
          simp only [cond_false, cond_true]
          rfl
        · simp at hc
      | true =>
        have e1 : okT F G = true := by unfold okT; rw [hm, hb]; rfl
        have hr : room F G < 64 := by simpa [Nat.blt_eq] using hb
        have hF := may_get hm hr
        have hc1 := room_spec hr
        simp only [cond_true]
        refine evC_seq ?_
        refine evC_go0 (dec := []) (ks := [(0, 1), (0, 2), (0, 3), (0, 4), (0, 5), (0, 6), (0, 38), (1, 0), (1, 64), (1, 128), (65, 0), (65, 64), (65, 128)]) (s' := ⟨[(0, 1, Cont.cell (AV.ptr 1 0)), (0, 2, Cont.cell (AV.bool false)), (0, 3, Cont.cell (AV.ptr 65 0)), (0, 4, Cont.cell (AV.int IntKind.i64 (tkN F G))), (0, 5, Cont.cell (AV.int IntKind.i64 (tkE F G))), (0, 6, Cont.cell (AV.int IntKind.i64 (↑(room F G) : Int))), (0, 38, Cont.cell (AV.bool (decide ((↑(room F G) : Int) < 0)))), (1, 0, Cont.arr 64 fun i => AV.int IntKind.i64 (F i)), (1, 64, Cont.arr 64 fun i => AV.bool (G i)), (1, 128, Cont.top), (65, 0, Cont.arr 64 fun i => AV.int IntKind.i64 (tkT F G i)), (65, 64, Cont.arr 64 fun i => AV.bool (tkL F G i)), (65, 128, Cont.top)], 201, 80⟩) (by kernel_rfl) (by kernel_rfl) ?_
        refine evC_if (q := decide ((↑(room F G) : Int) < 0)) (by kernel_rfl) (fun hc => ?_) (fun hc => ?_)
        · have := of_decide_eq_true hc; omega
        clear hc
        refine evC_skip ?_
        refine then_normal ?_
        refine evC_go (dec := []) (ks := [(0, 1), (0, 2), (0, 3), (0, 4), (0, 5), (0, 6), (1, 0), (1, 64), (1, 128), (65, 0), (65, 64), (65, 128)]) (ps := [(0 : Int) ≤ (↑(room F G) : Int), (↑(room F G) : Int) < (↑(64 : Nat) : Int), (0 : Int) ≤ (↑(room F G) : Int), (↑(room F G) : Int) < (↑(64 : Nat) : Int)]) (s' := ⟨[(0, 1, Cont.cell (AV.ptr 1 0)), (0, 2, Cont.cell (AV.bool false)), (0, 3, Cont.cell (AV.ptr 65 0)), (0, 4, Cont.cell (AV.int IntKind.i64 (tkN F G))), (0, 5, Cont.cell (AV.int IntKind.i64 (tkE F G))), (0, 6, Cont.cell (AV.int IntKind.i64 (↑(room F G) : Int))), (1, 0, Cont.arr 64 fun i => AV.int IntKind.i64 (F i)), (1, 64, Cont.arr 64 fun j => bif j == room F G then AV.bool true else AV.bool (G j)), (1, 128, Cont.top), (65, 0, Cont.arr 64 fun i => AV.int IntKind.i64 (tkT F G i)), (65, 64, Cont.arr 64 fun i => AV.bool (tkL F G i)), (65, 128, Cont.top)], 233, 80⟩) (by kernel_rfl) (by kernel_rfl) ?_ ?_
        · (simp only [All]; (repeat' apply And.intro) <;> (try intro _) <;> (try intro _) <;> first | trivial | assumption | omega | rfl | exact ⟨_, rfl, rfl⟩ | exact ⟨rfl, rfl⟩ | exact ⟨fun _ => rfl, fun _ => rfl⟩ | (unfold maxLen; omega) | (unfold i64R; first | omega | decide) | decide)
        refine evC_go (dec := []) (ks := [(0, 1), (0, 2), (0, 3), (0, 4), (0, 5), (0, 6), (1, 0), (1, 64), (1, 128), (65, 0), (65, 64), (65, 128)]) (ps := [(0 : Int) ≤ (↑(room F G) : Int), (↑(room F G) : Int) < (↑(64 : Nat) : Int), (0 : Int) ≤ (↑(room F G) : Int), (↑(room F G) : Int) < (↑(64 : Nat) : Int), (0 : Int) ≤ (↑(room F G) : Int), (↑(room F G) : Int) < (↑(64 : Nat) : Int), (0 : Int) ≤ (↑(room F G) : Int), (↑(room F G) : Int) < (↑(64 : Nat) : Int)]) (s' := ⟨[(0, 1, Cont.cell (AV.ptr 1 0)), (0, 2, Cont.cell (AV.bool false)), (0, 3, Cont.cell (AV.ptr 65 0)), (0, 4, Cont.cell (AV.int IntKind.i64 (tkN F G))), (0, 5, Cont.cell (AV.int IntKind.i64 (tkE F G))), (0, 6, Cont.cell (AV.int IntKind.i64 (↑(room F G) : Int))), (1, 0, Cont.arr 64 fun j => bif j == room F G then AV.int IntKind.i64 (IntKind.i64.wrap (F (room F G) + 1)) else AV.int IntKind.i64 (F j)), (1, 64, Cont.arr 64 fun j => bif j == room F G then AV.bool true else AV.bool (G j)), (1, 128, Cont.top), (65, 0, Cont.arr 64 fun i => AV.int IntKind.i64 (tkT F G i)), (65, 64, Cont.arr 64 fun i => AV.bool (tkL F G i)), (65, 128, Cont.top)], 297, 80⟩) (by kernel_rfl) (by kernel_rfl) ?_ ?_
        · (simp only [All]; (repeat' apply And.intro) <;> (try intro _) <;> (try intro _) <;> first | trivial | assumption | omega | rfl | exact ⟨_, rfl, rfl⟩ | exact ⟨rfl, rfl⟩ | exact ⟨fun _ => rfl, fun _ => rfl⟩ | (unfold maxLen; omega) | (unfold i64R; first | omega | decide) | decide)
        rw [i64_in (F (room F G) + 1) (by omega)]
        refine evC_wk (s' := ⟨[(0, 1, Cont.cell (AV.ptr 1 0)), (0, 2, Cont.cell (AV.bool false)), (0, 3, Cont.cell (AV.ptr 2 0)), (0, 4, Cont.cell (AV.int IntKind.i64 (tkN F G))), (0, 5, Cont.cell (AV.int IntKind.i64 (tkE F G))), (0, 6, Cont.cell (AV.int IntKind.i64 (↑(room F G) : Int))), (1, 0, .arr 64 (fun j => .int .i64 (tkT F G j))), (1, 64, .arr 64 (fun j => .bool (tkL F G j))), (1, 128, Cont.top), (2, 0, Cont.arr 64 fun i => AV.int IntKind.i64 (tkT F G i)), (2, 64, Cont.arr 64 fun i => AV.bool (tkL F G i)), (2, 128, Cont.top)], 3, 80⟩) _ (wk_go [1, 65] rfl (by decide) rfl rfl ⟨⟨_, rfl, rfl⟩, ⟨_, rfl, rfl⟩, ⟨_, rfl, rfl⟩, ⟨_, rfl, rfl⟩, ⟨_, rfl, rfl⟩, ⟨_, rfl, rfl⟩, ⟨_, rfl, ?_⟩, ⟨_, rfl, ?_⟩, ⟨_, rfl, trivial⟩, ⟨_, rfl, rfl, fun _ _ => rfl⟩, ⟨_, rfl, rfl, fun _ _ => rfl⟩, ⟨_, rfl, trivial⟩, trivial⟩) ?_
        · refine ⟨rfl, fun j hj => ?_⟩
          unfold tkT; rw [e1]
          by_cases h : j = room F G
          · subst h; simp [AV.ren]
          · have h2 : (j == room F G) = false := by simpa using h
            simp [AV.ren, h2]
        · refine ⟨rfl, fun j hj => ?_⟩
          unfold tkL; rw [e1]
          by_cases h : j = room F G
          · subst h; simp [AV.ren]
          · have h2 : (j == room F G) = false := by simpa using h
            simp [AV.ren, h2]
        have e2 : tkT F G (room F G) = F (room F G) + 1 := by unfold tkT; rw [e1]; simp
        refine evC_go (dec := []) (ks := [(0, 2)]) (ps := [∀ (i : Nat), i < (64 : Nat) → ∃ q, AV.int IntKind.i64 (tkT F G i) = AV.int q (tkT F G i) ∧ AV.int IntKind.i64 (tkT F G i) = AV.int q (tkT F G i), ∀ (i : Nat), i < (64 : Nat) → AV.bool (tkL F G i) = AV.bool (tkL F G i) ∧ AV.bool (tkL F G i) = AV.bool (tkL F G i), List.all [(List.all (List.range (64 : Nat)) fun i => tkT F G i == tkT F G i) && ((List.all (List.range (64 : Nat)) fun i => tkL F G i == tkL F G i) && true)] id = true → IsAr (fun j => AV.int IntKind.i64 (tkT F G j)) fun j => AV.bool (tkL F G j), List.all [(List.all (List.range (64 : Nat)) fun i => tkT F G i == tkT F G i) && ((List.all (List.range (64 : Nat)) fun i => tkL F G i == tkL F G i) && true)] id = true → (0 : Int) ≤ (↑(room F G) : Int) ∧ (↑(room F G) : Int) < (64 : Int), List.all [(List.all (List.range (64 : Nat)) fun i => tkT F G i == tkT F G i) && ((List.all (List.range (64 : Nat)) fun i => tkL F G i == tkL F G i) && true)] id = true → (0 : Int) ≤ tkT F G (room F G) ∧ tkT F G (room F G) ≤ (1048577 : Int)]) (s' := ⟨[(0, 2, Cont.cell (AV.bool (bif bif bif (List.all (List.range 64) fun i => tkT F G i == tkT F G i) && ((List.all (List.range 64) fun i => tkL F G i == tkL F G i) && true) then tkN F G == 64 * (tkT F G (room F G) - 1) + (↑(room F G) : Int) else false then tkE F G == 0 else false then true else false)))], 147, 80⟩) (by kernel_rfl) (by kernel_rfl) ?_ ?_
        · rw [e2]; (simp only [All]; (repeat' apply And.intro) <;> (try intro _) <;> (try intro _) <;> first | trivial | assumption | omega | rfl | exact ⟨_, rfl, rfl⟩ | exact ⟨rfl, rfl⟩ | exact ⟨fun _ => rfl, fun _ => rfl⟩ | (unfold maxLen; omega) | (unfold i64R; first | omega | decide) | decide)
        refine evC_ret ?_
        refine post_ret ?_
        refine ends_flat (vs := [AV.bool (bif bif bif (List.all (List.range 64) fun i => tkT F G i == tkT F G i) && ((List.all (List.range 64) fun i => tkL F G i == tkL F G i) && true) then tkN F G == 64 * (tkT F G (room F G) - 1) + (↑(room F G) : Int) else false then tkE F G == 0 else false then true else false)]) (Nat.zero_lt_succ _) (by kernel_rfl) (flat_of _ (by kernel_rfl)) rfl ?_
        refine congrArg AV.bool ?_
        rw [all_same, all_same, e2]
        unfold tkN tkE
        rw [e1, hm, hb]
        simp only [cond_true]
        have : (F (room F G) * 64 + (room F G : Nat) == 64 * (F (room F G) + 1 - 1) + (room F G : Nat)) = true := by simp; omega
        rw [this]; rfl
  · cases e

def sArenaFrees : Spec := fun args _ _ => match args with
  | [.agg [.arr 64 f, .arr 64 g], .int .i64 id] => some ⟨[IsAr f g, i64R id], .bool true, [], []⟩
  | _ => none
theorem arenaFrees_ok : SpecOK Try.prog 4 sArenaFrees := by
  refine spec_own (by kernel_rfl) T_ok (sget_cons free_ok (sget_cons refMay_ok (sget_cons refPlace_ok (sget_cons given_ok (sget_cons last_ok (sget_cons awake_ok sget_nil)))))) Try.func4 rfl rfl fun args hr nb out e => ?_
  unfold sArenaFrees at e
  split at e
  · rename_i f g id
    injection e with e; subst e
    refine ⟨(fun _ h => nomatch h), true, [ar (fun i => iv (f i)) (fun i => bv (g i)), .int .i64 id], rfl, fun hs => ?_⟩
    have ha := hs _ List.mem_cons_self
    have hid : i64R id := hs _ (List.mem_cons_of_mem _ List.mem_cons_self)
    rw [ha.eq]
    clear hs ha
    generalize (fun i => iv (f i)) = F
    generalize (fun i => bv (g i)) = G
    refine ⟨.cons _ _ _ _ (.same _ _ (ar_flat F G).has) (.cons _ _ _ _ (.same _ _ (.int _ _)) .nil), ?_⟩
    have hp := plF_range id
    refine evC_go0 (dec := []) (ks := [(0, 1), (0, 2), (0, 4), (1, 0), (1, 64), (1, 128)]) (s' := ⟨[(0, 1, Cont.cell (AV.int IntKind.i64 id)), (0, 2, Cont.cell (AV.ptr 1 0)), (0, 4, Cont.cell (AV.bool false)), (1, 0, Cont.arr 64 fun i => AV.int IntKind.i64 (F i)), (1, 64, Cont.arr 64 fun i => AV.bool (G i)), (1, 128, Cont.top)], 17, 78⟩) (by kernel_rfl) (by kernel_rfl) ?_
    refine evC_go (dec := []) (ks := [(0, 1), (0, 2), (0, 4), (0, 5), (0, 6), (1, 0), (1, 64), (1, 128), (65, 0), (65, 64), (65, 128)]) (ps := [IsAr (fun i => AV.int IntKind.i64 (F i)) fun i => AV.bool (G i), i64R id]) (s' := ⟨[(0, 1, Cont.cell (AV.int IntKind.i64 id)), (0, 2, Cont.cell (AV.ptr 1 0)), (0, 4, Cont.cell (AV.bool false)), (0, 5, Cont.cell (AV.ptr 65 0)), (0, 6, Cont.cell (AV.int IntKind.i64 (frE F G id))), (1, 0, Cont.arr 64 fun i => AV.int IntKind.i64 (F i)), (1, 64, Cont.arr 64 fun i => AV.bool (G i)), (1, 128, Cont.top), (65, 0, Cont.arr 64 fun i => AV.int IntKind.i64 (frT F G id i)), (65, 64, Cont.arr 64 fun i => AV.bool (frL F G id i)), (65, 128, Cont.top)], 89, 78⟩) (by kernel_rfl) (by kernel_rfl) ?_ ?_
    · exact ⟨⟨fun _ => rfl, fun _ => rfl⟩, hid⟩
    refine evC_seq ?_
    refine evC_go (dec := []) (ks := [(0, 1), (0, 2), (0, 4), (0, 5), (0, 6), (0, 16), (1, 0), (1, 64), (1, 128), (65, 0), (65, 64), (65, 128)]) (ps := [IsAr (fun i => AV.int IntKind.i64 (F i)) fun i => AV.bool (G i)]) (s' := ⟨[(0, 1, Cont.cell (AV.int IntKind.i64 id)), (0, 2, Cont.cell (AV.ptr 1 0)), (0, 4, Cont.cell (AV.bool false)), (0, 5, Cont.cell (AV.ptr 65 0)), (0, 6, Cont.cell (AV.int IntKind.i64 (frE F G id))), (0, 16, Cont.cell (AV.bool !mayA F G)), (1, 0, Cont.arr 64 fun i => AV.int IntKind.i64 (F i)), (1, 64, Cont.arr 64 fun i => AV.bool (G i)), (1, 128, Cont.top), (65, 0, Cont.arr 64 fun i => AV.int IntKind.i64 (frT F G id i)), (65, 64, Cont.arr 64 fun i => AV.bool (frL F G id i)), (65, 128, Cont.top)], 113, 78⟩) (by kernel_rfl) (by kernel_rfl) ?_ ?_
    · (simp only [All]; (repeat' apply And.intro) <;> (try intro _) <;> (try intro _) <;> first | trivial | assumption | omega | rfl | exact ⟨_, rfl, rfl⟩ | exact ⟨rfl, rfl⟩ | exact ⟨fun _ => rfl, fun _ => rfl⟩ | (unfold maxLen; omega) | (unfold i64R; first | omega | decide) | decide)
    refine evC_if (q := !mayA F G) (by kernel_rfl) (fun hc => ?_) (fun hc => ?_)
    · have hm : mayA F G = false := (Bool.not_eq_true' _).mp hc
      have e4 : frE F G id = 1 := by unfold frE; rw [hm]; rfl
      refine evC_go (dec := []) (ks := [(0, 1), (0, 2), (0, 4), (0, 5), (0, 6), (1, 0), (1, 64), (1, 128), (65, 0), (65, 64), (65, 128)]) (ps := [∀ (i : Nat), i < (64 : Nat) → ∃ q, AV.int IntKind.i64 (frT F G id i) = AV.int q (frT F G id i) ∧ AV.int IntKind.i64 (0 : Int) = AV.int q (0 : Int), ∀ (i : Nat), i < (64 : Nat) → AV.bool (frL F G id i) = AV.bool (frL F G id i) ∧ AV.bool false = AV.bool false]) (s' := ⟨[(0, 1, Cont.cell (AV.int IntKind.i64 id)), (0, 2, Cont.cell (AV.ptr 1 0)), (0, 4, Cont.cell (AV.bool (bif bif (List.all (List.range 64) fun i => frT F G id i == 0) && ((List.all (List.range 64) fun i => frL F G id i == false) && true) then frE F G id == 1 else false then true else false))), (0, 5, Cont.cell (AV.ptr 65 0)), (0, 6, Cont.cell (AV.int IntKind.i64 (frE F G id))), (1, 0, Cont.arr 64 fun i => AV.int IntKind.i64 (F i)), (1, 64, Cont.arr 64 fun i => AV.bool (G i)), (1, 128, Cont.top), (65, 0, Cont.arr 64 fun i => AV.int IntKind.i64 (frT F G id i)), (65, 64, Cont.arr 64 fun i => AV.bool (frL F G id i)), (65, 128, Cont.top)], 201, 78⟩) (by kernel_rfl) (by kernel_rfl) ?_ ?_
      · (simp only [All]; (repeat' apply And.intro) <;> (try intro _) <;> (try intro _) <;> first | trivial | assumption | omega | rfl | exact ⟨_, rfl, rfl⟩ | exact ⟨rfl, rfl⟩ | exact ⟨fun _ => rfl, fun _ => rfl⟩ | (unfold maxLen; omega) | (unfold i64R; first | omega | decide) | decide)
      refine evC_ret ?_
      refine then_ret ?_
      refine post_ret ?_
      refine ends_flat (vs := [AV.bool (bif bif (List.all (List.range 64) fun i => frT F G id i == 0) && ((List.all (List.range 64) fun i => frL F G id i == false) && true) then frE F G id == 1 else false then true else false)]) (Nat.zero_lt_succ _) (by kernel_rfl) (flat_of _ (by kernel_rfl)) rfl ?_
      refine congrArg AV.bool ?_
      unfold frT frL
      rw [e4]
      rfl
    · have hm : mayA F G = true := (Bool.not_eq_false' _).mp hc
      clear hc
      have hF := may_get hm (p := (plF id).toNat) (by omega)
      refine evC_skip ?_
      refine then_normal ?_
      refine evC_go0 (dec := []) (ks := [(0, 1), (0, 2), (0, 4), (0, 5), (0, 6), (0, 7), (1, 0), (1, 64), (1, 128), (65, 0), (65, 64), (65, 128)]) (s' := ⟨[(0, 1, Cont.cell (AV.int IntKind.i64 id)), (0, 2, Cont.cell (AV.ptr 1 0)), (0, 4, Cont.cell (AV.bool false)), (0, 5, Cont.cell (AV.ptr 65 0)), (0, 6, Cont.cell (AV.int IntKind.i64 (frE F G id))), (0, 7, Cont.cell (AV.int IntKind.i64 (plF id))), (1, 0, Cont.arr 64 fun i => AV.int IntKind.i64 (F i)), (1, 64, Cont.arr 64 fun i => AV.bool (G i)), (1, 128, Cont.top), (65, 0, Cont.arr 64 fun i => AV.int IntKind.i64 (frT F G id i)), (65, 64, Cont.arr 64 fun i => AV.bool (frL F G id i)), (65, 128, Cont.top)], 137, 78⟩) (by kernel_rfl) (by kernel_rfl) ?_
      refine evC_seq ?_
      refine evC_go (dec := []) (ks := [(0, 1), (0, 2), (0, 4), (0, 5), (0, 6), (0, 7), (0, 32), (1, 0), (1, 64), (1, 128), (65, 0), (65, 64), (65, 128)]) (ps := [IsAr (fun i => AV.int IntKind.i64 (F i)) fun i => AV.bool (G i), ∀ (p : Nat), p < (64 : Nat) → (0 : Int) ≤ F p ∧ F p ≤ (1048577 : Int)]) (s' := ⟨[(0, 1, Cont.cell (AV.int IntKind.i64 id)), (0, 2, Cont.cell (AV.ptr 1 0)), (0, 4, Cont.cell (AV.bool false)), (0, 5, Cont.cell (AV.ptr 65 0)), (0, 6, Cont.cell (AV.int IntKind.i64 (frE F G id))), (0, 7, Cont.cell (AV.int IntKind.i64 (plF id))), (0, 32, Cont.cell (AV.bool !givenF F id)), (1, 0, Cont.arr 64 fun i => AV.int IntKind.i64 (F i)), (1, 64, Cont.arr 64 fun i => AV.bool (G i)), (1, 128, Cont.top), (65, 0, Cont.arr 64 fun i => AV.int IntKind.i64 (frT F G id i)), (65, 64, Cont.arr 64 fun i => AV.bool (frL F G id i)), (65, 128, Cont.top)], 169, 78⟩) (by kernel_rfl) (by kernel_rfl) ?_ ?_
      · exact ⟨⟨fun _ => rfl, fun _ => rfl⟩, fun p hp => ⟨(may_get hm hp).1, Int.le_trans (may_get hm hp).2.1 (by decide)⟩⟩
      refine evC_if (q := !givenF F id) (by kernel_rfl) (fun hc => ?_) (fun hc => ?_)
      · have hg : givenF F id = false := (Bool.not_eq_true' _).mp hc
        have e4 : frE F G id = 6 := by unfold frE; rw [hm, hg]; rfl
        refine evC_go (dec := []) (ks := [(0, 1), (0, 2), (0, 4), (0, 5), (0, 6), (0, 7), (1, 0), (1, 64), (1, 128), (65, 0), (65, 64), (65, 128)]) (ps := [∀ (i : Nat), i < (64 : Nat) → ∃ q, AV.int IntKind.i64 (frT F G id i) = AV.int q (frT F G id i) ∧ AV.int IntKind.i64 (0 : Int) = AV.int q (0 : Int), ∀ (i : Nat), i < (64 : Nat) → AV.bool (frL F G id i) = AV.bool (frL F G id i) ∧ AV.bool false = AV.bool false]) (s' := ⟨[(0, 1, Cont.cell (AV.int IntKind.i64 id)), (0, 2, Cont.cell (AV.ptr 1 0)), (0, 4, Cont.cell (AV.bool (bif bif (List.all (List.range 64) fun i => frT F G id i == 0) && ((List.all (List.range 64) fun i => frL F G id i == false) && true) then frE F G id == 6 else false then true else false))), (0, 5, Cont.cell (AV.ptr 65 0)), (0, 6, Cont.cell (AV.int IntKind.i64 (frE F G id))), (0, 7, Cont.cell (AV.int IntKind.i64 (plF id))), (1, 0, Cont.arr 64 fun i => AV.int IntKind.i64 (F i)), (1, 64, Cont.arr 64 fun i => AV.bool (G i)), (1, 128, Cont.top), (65, 0, Cont.arr 64 fun i => AV.int IntKind.i64 (frT F G id i)), (65, 64, Cont.arr 64 fun i => AV.bool (frL F G id i)), (65, 128, Cont.top)], 257, 78⟩) (by kernel_rfl) (by kernel_rfl) ?_ ?_
        · (simp only [All]; (repeat' apply And.intro) <;> (try intro _) <;> (try intro _) <;> first | trivial | assumption | omega | rfl | exact ⟨_, rfl, rfl⟩ | exact ⟨rfl, rfl⟩ | exact ⟨fun _ => rfl, fun _ => rfl⟩ | (unfold maxLen; omega) | (unfold i64R; first | omega | decide) | decide)
        refine evC_ret ?_
        refine then_ret ?_
        refine post_ret ?_
        refine ends_flat (vs := [AV.bool (bif bif (List.all (List.range 64) fun i => frT F G id i == 0) && ((List.all (List.range 64) fun i => frL F G id i == false) && true) then frE F G id == 6 else false then true else false)]) (Nat.zero_lt_succ _) (by kernel_rfl) (flat_of _ (by kernel_rfl)) rfl ?_
        refine congrArg AV.bool ?_
        unfold frT frL
        rw [e4]
        rfl
      · have hg : givenF F id = true := (Bool.not_eq_false' _).mp hc
        clear hc
        refine evC_skip ?_
        refine then_normal ?_
        refine evC_seq ?_
        refine evC_go (dec := []) (ks := [(0, 2), (0, 4), (0, 5), (0, 6), (0, 7), (0, 54), (1, 0), (1, 64), (1, 128), (65, 0), (65, 64), (65, 128)]) (ps := [IsAr (fun i => AV.int IntKind.i64 (F i)) fun i => AV.bool (G i), (0 : Int) ≤ plF id ∧ plF id < (64 : Int), (0 : Int) ≤ F (Int.toNat (plF id)) ∧ F (Int.toNat (plF id)) ≤ (1048577 : Int), List.all [!id != (64 : Int) * (F (Int.toNat (plF id)) - (1 : Int)) + plF id] _root_.id = true → (0 : Int) ≤ plF id, List.all [!id != (64 : Int) * (F (Int.toNat (plF id)) - (1 : Int)) + plF id] _root_.id = true → plF id < (↑(64 : Nat) : Int), List.all [!id != (64 : Int) * (F (Int.toNat (plF id)) - (1 : Int)) + plF id] _root_.id = true → (0 : Int) ≤ plF id, List.all [!id != (64 : Int) * (F (Int.toNat (plF id)) - (1 : Int)) + plF id] _root_.id = true → plF id < (↑(64 : Nat) : Int)]) (s' := ⟨[(0, 2, Cont.cell (AV.ptr 1 0)), (0, 4, Cont.cell (AV.bool false)), (0, 5, Cont.cell (AV.ptr 65 0)), (0, 6, Cont.cell (AV.int IntKind.i64 (frE F G id))), (0, 7, Cont.cell (AV.int IntKind.i64 (plF id))), (0, 54, Cont.cell (AV.bool (bif id != 64 * (F (Int.toNat (plF id)) - 1) + plF id then true else !G (Int.toNat (plF id))))), (1, 0, Cont.arr 64 fun i => AV.int IntKind.i64 (F i)), (1, 64, Cont.arr 64 fun i => AV.bool (G i)), (1, 128, Cont.top), (65, 0, Cont.arr 64 fun i => AV.int IntKind.i64 (frT F G id i)), (65, 64, Cont.arr 64 fun i => AV.bool (frL F G id i)), (65, 128, Cont.top)], 265, 78⟩) (by kernel_rfl) (by kernel_rfl) ?_ ?_
        · (simp only [All]; (repeat' apply And.intro) <;> (try intro _) <;> (try intro _) <;> first | trivial | assumption | omega | rfl | exact ⟨_, rfl, rfl⟩ | exact ⟨rfl, rfl⟩ | exact ⟨fun _ => rfl, fun _ => rfl⟩ | (unfold maxLen; omega) | (unfold i64R; first | omega | decide) | decide)
        have hb : (bif id != 64 * (F (plF id).toNat - 1) + plF id then true else !G (plF id).toNat) = !((id == 64 * (F (plF id).toNat - 1) + plF id) && G (plF id).toNat) := by
          cases h : (id == 64 * (F (plF id).toNat - 1) + plF id) <;> simp [bne, h]
        rw [hb]
        refine evC_if (q := !(id == 64 * (F (Int.toNat (plF id)) - 1) + plF id && G (Int.toNat (plF id)))) (by kernel_rfl) (fun hc => ?_) (fun hc => ?_)
        · have e4 : frE F G id = 12 := by
            unfold frE; rw [hm, hg, (Bool.not_eq_true' _).mp hc]; rfl
          refine evC_go (dec := []) (ks := [(0, 2), (0, 4), (0, 5), (0, 6), (0, 7), (1, 0), (1, 64), (1, 128), (65, 0), (65, 64), (65, 128)]) (ps := [∀ (i : Nat), i < (64 : Nat) → ∃ q, AV.int IntKind.i64 (frT F G id i) = AV.int q (frT F G id i) ∧ AV.int IntKind.i64 (0 : Int) = AV.int q (0 : Int), ∀ (i : Nat), i < (64 : Nat) → AV.bool (frL F G id i) = AV.bool (frL F G id i) ∧ AV.bool false = AV.bool false]) (s' := ⟨[(0, 2, Cont.cell (AV.ptr 1 0)), (0, 4, Cont.cell (AV.bool (bif bif (List.all (List.range 64) fun i => frT F G id i == 0) && ((List.all (List.range 64) fun i => frL F G id i == false) && true) then frE F G id == 12 else false then true else false))), (0, 5, Cont.cell (AV.ptr 65 0)), (0, 6, Cont.cell (AV.int IntKind.i64 (frE F G id))), (0, 7, Cont.cell (AV.int IntKind.i64 (plF id))), (1, 0, Cont.arr 64 fun i => AV.int IntKind.i64 (F i)), (1, 64, Cont.arr 64 fun i => AV.bool (G i)), (1, 128, Cont.top), (65, 0, Cont.arr 64 fun i => AV.int IntKind.i64 (frT F G id i)), (65, 64, Cont.arr 64 fun i => AV.bool (frL F G id i)), (65, 128, Cont.top)], 353, 78⟩) (by kernel_rfl) (by kernel_rfl) ?_ ?_
          · (simp only [All]; (repeat' apply And.intro) <;> (try intro _) <;> (try intro _) <;> first | trivial | assumption | omega | rfl | exact ⟨_, rfl, rfl⟩ | exact ⟨rfl, rfl⟩ | exact ⟨fun _ => rfl, fun _ => rfl⟩ | (unfold maxLen; omega) | (unfold i64R; first | omega | decide) | decide)
          refine evC_ret ?_
          refine then_ret ?_
          refine post_ret ?_
          refine ends_flat (vs := [AV.bool (bif bif (List.all (List.range 64) fun i => frT F G id i == 0) && ((List.all (List.range 64) fun i => frL F G id i == false) && true) then frE F G id == 12 else false then true else false)]) (Nat.zero_lt_succ _) (by kernel_rfl) (flat_of _ (by kernel_rfl)) rfl ?_
          refine congrArg AV.bool ?_
          unfold frT frL
          rw [e4]
          rfl
        · have e4 : frE F G id = 0 := by
            unfold frE; rw [hm, hg, (Bool.not_eq_false' _).mp hc]; rfl
          clear hc hb
          refine evC_skip ?_
          refine then_normal ?_
          refine evC_go (dec := []) (ks := [(0, 2), (0, 4), (0, 5), (0, 6), (1, 0), (1, 64), (1, 128), (65, 0), (65, 64), (65, 128)]) (ps := [(0 : Int) ≤ plF id, plF id < (↑(64 : Nat) : Int), (0 : Int) ≤ plF id, plF id < (↑(64 : Nat) : Int)]) (s' := ⟨[(0, 2, Cont.cell (AV.ptr 1 0)), (0, 4, Cont.cell (AV.bool false)), (0, 5, Cont.cell (AV.ptr 65 0)), (0, 6, Cont.cell (AV.int IntKind.i64 (frE F G id))), (1, 0, Cont.arr 64 fun i => AV.int IntKind.i64 (F i)), (1, 64, Cont.arr 64 fun j => bif j == Int.toNat (plF id) then AV.bool false else AV.bool (G j)), (1, 128, Cont.top), (65, 0, Cont.arr 64 fun i => AV.int IntKind.i64 (frT F G id i)), (65, 64, Cont.arr 64 fun i => AV.bool (frL F G id i)), (65, 128, Cont.top)], 297, 78⟩) (by kernel_rfl) (by kernel_rfl) ?_ ?_
          · (simp only [All]; (repeat' apply And.intro) <;> (try intro _) <;> (try intro _) <;> first | trivial | assumption | omega | rfl | exact ⟨_, rfl, rfl⟩ | exact ⟨rfl, rfl⟩ | exact ⟨fun _ => rfl, fun _ => rfl⟩ | (unfold maxLen; omega) | (unfold i64R; first | omega | decide) | decide)
          refine evC_wk (s' := ⟨[(0, 2, Cont.cell (AV.ptr 1 0)), (0, 4, Cont.cell (AV.bool false)), (0, 5, Cont.cell (AV.ptr 2 0)), (0, 6, Cont.cell (AV.int IntKind.i64 (frE F G id))), (1, 0, .arr 64 (fun j => .int .i64 (frT F G id j))), (1, 64, .arr 64 (fun j => .bool (frL F G id j))), (1, 128, Cont.top), (2, 0, Cont.arr 64 fun i => AV.int IntKind.i64 (frT F G id i)), (2, 64, Cont.arr 64 fun i => AV.bool (frL F G id i)), (2, 128, Cont.top)], 3, 78⟩) _ (wk_go [1, 65] rfl (by decide) rfl rfl ⟨⟨_, rfl, rfl⟩, ⟨_, rfl, rfl⟩, ⟨_, rfl, rfl⟩, ⟨_, rfl, rfl⟩, ⟨_, rfl, ?_⟩, ⟨_, rfl, ?_⟩, ⟨_, rfl, trivial⟩, ⟨_, rfl, rfl, fun _ _ => rfl⟩, ⟨_, rfl, rfl, fun _ _ => rfl⟩, ⟨_, rfl, trivial⟩, trivial⟩) ?_
          · refine ⟨rfl, fun j hj => ?_⟩
            unfold frT; rw [e4]; rfl
          · refine ⟨rfl, fun j hj => ?_⟩
            unfold frL; rw [e4]
            by_cases h : j = (plF id).toNat
            · subst h; simp [AV.ren]
            · have h2 : (j == (plF id).toNat) = false := by simpa using h
              simp [AV.ren, h2]
          refine evC_go (dec := []) (ks := [(0, 4)]) (ps := [∀ (i : Nat), i < (64 : Nat) → ∃ q, AV.int IntKind.i64 (frT F G id i) = AV.int q (frT F G id i) ∧ AV.int IntKind.i64 (frT F G id i) = AV.int q (frT F G id i), ∀ (i : Nat), i < (64 : Nat) → AV.bool (frL F G id i) = AV.bool (frL F G id i) ∧ AV.bool (frL F G id i) = AV.bool (frL F G id i)]) (s' := ⟨[(0, 4, Cont.cell (AV.bool (bif bif (List.all (List.range 64) fun i => frT F G id i == frT F G id i) && ((List.all (List.range 64) fun i => frL F G id i == frL F G id i) && true) then frE F G id == 0 else false then true else false)))], 91, 78⟩) (by kernel_rfl) (by kernel_rfl) ?_ ?_
          · (simp only [All]; (repeat' apply And.intro) <;> (try intro _) <;> (try intro _) <;> first | trivial | assumption | omega | rfl | exact ⟨_, rfl, rfl⟩ | exact ⟨rfl, rfl⟩ | exact ⟨fun _ => rfl, fun _ => rfl⟩ | (unfold maxLen; omega) | (unfold i64R; first | omega | decide) | decide)
          refine evC_ret ?_
          refine post_ret ?_
          refine ends_flat (vs := [AV.bool (bif bif (List.all (List.range 64) fun i => frT F G id i == frT F G id i) && ((List.all (List.range 64) fun i => frL F G id i == frL F G id i) && true) then frE F G id == 0 else false then true else false)]) (Nat.zero_lt_succ _) (by kernel_rfl) (flat_of _ (by kernel_rfl)) rfl ?_
          refine congrArg AV.bool ?_
          rw [all_same, all_same, e4]
          rfl
  · cases e

theorem allL_pre (F : Nat → Int) (G : Nat → Bool) (i : Nat) : ∀ k, ∃ t, allL F G (i + k) = allL F G i ++ t
  | 0 => ⟨[], by simp⟩
  | k + 1 => by
    obtain ⟨t, ht⟩ := allL_pre F G i k
    rw [← Nat.add_assoc]
    cases h : G (i + k) with
    | true => exact ⟨t ++ [(F (i + k) - 1) * 64 + ((i + k : Nat) : Int)], by rw [allL_yes h, ht, List.append_assoc]⟩
    | false => exact ⟨t, by rw [allL_no h, ht]⟩
theorem allL_at {F : Nat → Int} {G : Nat → Bool} {i : Nat} (h : i < 64) (hg : G i = true) : (allL F G i).length < (allL F G 64).length ∧ (allL F G 64).getD (allL F G i).length 0 = (F i - 1) * 64 + (i : Nat) := by
  obtain ⟨t, ht⟩ := allL_pre F G (i + 1) (64 - (i + 1))
  rw [show i + 1 + (64 - (i + 1)) = 64 by omega] at ht
  rw [ht, allL_yes hg]
  exact ⟨by simp, by simp [List.getD_eq_getElem?_getD]⟩

def sArenaTells : Spec := fun args _ _ => match args with
  | [.agg [.arr 64 f, .arr 64 g], .int .i64 id] => some ⟨[IsAr f g, i64R id], .bool true, [], []⟩
  | _ => none
theorem arenaTells_ok : SpecOK Try.prog 5 sArenaTells := by
  refine spec_own (by kernel_rfl) T_ok (sget_cons all_ok (sget_cons refPlace_ok (sget_cons place_ok (sget_cons count_ok (sget_cons refMay_ok (sget_cons is_ok (sget_cons last_ok (sget_cons awake_ok sget_nil)))))))) Try.func5 rfl rfl fun args hr nb out e => ?_
  unfold sArenaTells at e
  split at e
  · rename_i f g id
    injection e with e; subst e
    refine ⟨(fun _ h => nomatch h), true, [ar (fun i => iv (f i)) (fun i => bv (g i)), .int .i64 id], rfl, fun hs => ?_⟩
    have ha := hs _ List.mem_cons_self
    have hid : i64R id := hs _ (List.mem_cons_of_mem _ List.mem_cons_self)
    rw [ha.eq]
    clear hs ha
    generalize (fun i => iv (f i)) = F
    generalize (fun i => bv (g i)) = G
    refine ⟨.cons _ _ _ _ (.same _ _ (ar_flat F G).has) (.cons _ _ _ _ (.same _ _ (.int _ _)) .nil), ?_⟩
    have hp := plF_range id
    refine evC_go0 (dec := []) (ks := [(0, 1), (0, 2), (0, 4), (1, 0), (1, 64), (1, 128)]) (s' := ⟨[(0, 1, Cont.cell (AV.int IntKind.i64 id)), (0, 2, Cont.cell (AV.ptr 1 0)), (0, 4, Cont.cell (AV.bool false)), (1, 0, Cont.arr 64 fun i => AV.int IntKind.i64 (F i)), (1, 64, Cont.arr 64 fun i => AV.bool (G i)), (1, 128, Cont.top)], 17, 87⟩) (by kernel_rfl) (by kernel_rfl) ?_
    refine evC_go (dec := []) (ks := [(0, 1), (0, 2), (0, 4), (0, 5), (1, 0), (1, 64), (1, 128), (25, 0)]) (ps := [IsAr (fun i => AV.int IntKind.i64 (F i)) fun i => AV.bool (G i)]) (s' := ⟨[(0, 1, Cont.cell (AV.int IntKind.i64 id)), (0, 2, Cont.cell (AV.ptr 1 0)), (0, 4, Cont.cell (AV.bool false)), (0, 5, Cont.cell (AV.vs 25)), (1, 0, Cont.arr 64 fun i => AV.int IntKind.i64 (F i)), (1, 64, Cont.arr 64 fun i => AV.bool (G i)), (1, 128, Cont.top), (25, 0, Cont.vec 1 3 (List.length (allF F G)) (lst (allF F G)))], 41, 87⟩) (by kernel_rfl) (by kernel_rfl) ?_ ?_
    · (simp only [All]; (repeat' apply And.intro) <;> (try intro _) <;> (try intro _) <;> first | trivial | assumption | omega | rfl | exact ⟨_, rfl, rfl⟩ | exact ⟨rfl, rfl⟩ | exact ⟨fun _ => rfl, fun _ => rfl⟩ | (unfold maxLen; omega) | (unfold i64R; first | omega | decide) | decide)
    refine evC_go0 (dec := []) (ks := [(0, 1), (0, 2), (0, 4), (0, 5), (0, 6), (1, 0), (1, 64), (1, 128), (25, 0)]) (s' := ⟨[(0, 1, Cont.cell (AV.int IntKind.i64 id)), (0, 2, Cont.cell (AV.ptr 1 0)), (0, 4, Cont.cell (AV.bool false)), (0, 5, Cont.cell (AV.vs 25)), (0, 6, Cont.cell (AV.int IntKind.i64 (plF id))), (1, 0, Cont.arr 64 fun i => AV.int IntKind.i64 (F i)), (1, 64, Cont.arr 64 fun i => AV.bool (G i)), (1, 128, Cont.top), (25, 0, Cont.vec 1 3 (List.length (allF F G)) (lst (allF F G)))], 65, 87⟩) (by kernel_rfl) (by kernel_rfl) ?_
    refine evC_seq ?_
    refine evC_go (dec := []) (ks := [(0, 1), (0, 2), (0, 4), (0, 5), (0, 6), (0, 23), (1, 0), (1, 64), (1, 128), (25, 0)]) (ps := [List.all [!plF id != plF id] _root_.id = true → IsAr (fun i => AV.int IntKind.i64 (F i)) fun i => AV.bool (G i)]) (s' := ⟨[(0, 1, Cont.cell (AV.int IntKind.i64 id)), (0, 2, Cont.cell (AV.ptr 1 0)), (0, 4, Cont.cell (AV.bool false)), (0, 5, Cont.cell (AV.vs 25)), (0, 6, Cont.cell (AV.int IntKind.i64 (plF id))), (0, 23, Cont.cell (AV.bool (bif plF id != plF id then true else (↑(List.length (allF F G)) : Int) != (↑(List.length (allF F G)) : Int)))), (1, 0, Cont.arr 64 fun i => AV.int IntKind.i64 (F i)), (1, 64, Cont.arr 64 fun i => AV.bool (G i)), (1, 128, Cont.top), (25, 0, Cont.vec 1 3 (List.length (allF F G)) (lst (allF F G)))], 153, 87⟩) (by kernel_rfl) (by kernel_rfl) ?_ ?_
    · (simp only [All]; (repeat' apply And.intro) <;> (try intro _) <;> (try intro _) <;> first | trivial | assumption | omega | rfl | exact ⟨_, rfl, rfl⟩ | exact ⟨rfl, rfl⟩ | exact ⟨fun _ => rfl, fun _ => rfl⟩ | (unfold maxLen; omega) | (unfold i64R; first | omega | decide) | decide)
    refine evC_if (q := bif plF id != plF id then true else (↑(List.length (allF F G)) : Int) != (↑(List.length (allF F G)) : Int)) (by kernel_rfl) (fun hc => ?_) (fun hc => ?_)
    · simp at hc
    clear hc
    refine evC_skip ?_
    refine then_normal ?_
    refine evC_seq ?_
    refine evC_go (dec := []) (ks := [(0, 1), (0, 2), (0, 4), (0, 5), (0, 6), (0, 26), (1, 0), (1, 64), (1, 128), (25, 0)]) (ps := [IsAr (fun i => AV.int IntKind.i64 (F i)) fun i => AV.bool (G i)]) (s' := ⟨[(0, 1, Cont.cell (AV.int IntKind.i64 id)), (0, 2, Cont.cell (AV.ptr 1 0)), (0, 4, Cont.cell (AV.bool false)), (0, 5, Cont.cell (AV.vs 25)), (0, 6, Cont.cell (AV.int IntKind.i64 (plF id))), (0, 26, Cont.cell (AV.bool !mayA F G)), (1, 0, Cont.arr 64 fun i => AV.int IntKind.i64 (F i)), (1, 64, Cont.arr 64 fun i => AV.bool (G i)), (1, 128, Cont.top), (25, 0, Cont.vec 1 3 (List.length (allF F G)) (lst (allF F G)))], 177, 87⟩) (by kernel_rfl) (by kernel_rfl) ?_ ?_
    · (simp only [All]; (repeat' apply And.intro) <;> (try intro _) <;> (try intro _) <;> first | trivial | assumption | omega | rfl | exact ⟨_, rfl, rfl⟩ | exact ⟨rfl, rfl⟩ | exact ⟨fun _ => rfl, fun _ => rfl⟩ | (unfold maxLen; omega) | (unfold i64R; first | omega | decide) | decide)
    refine evC_if (q := !mayA F G) (by kernel_rfl) (fun hc => ?_) (fun hc => ?_)
    · have hm : mayA F G = false := (Bool.not_eq_true' _).mp hc
      have e1 : allF F G = [] := by unfold allF; rw [hm]; rfl
      rw [e1, List.length_nil]
      refine evC_go (dec := []) (ks := [(0, 1), (0, 2), (0, 4), (0, 5), (0, 6), (1, 0), (1, 64), (1, 128), (25, 0)]) (ps := [List.all [(↑(0 : Nat) : Int) == (0 : Int)] _root_.id = true → IsAr (fun i => AV.int IntKind.i64 (F i)) fun i => AV.bool (G i), List.all [(↑(0 : Nat) : Int) == (0 : Int)] _root_.id = true → i64R id]) (s' := ⟨[(0, 1, Cont.cell (AV.int IntKind.i64 id)), (0, 2, Cont.cell (AV.ptr 1 0)), (0, 4, Cont.cell (AV.bool (bif bif (↑0 : Int) == 0 then !isF F G id else false then true else false))), (0, 5, Cont.cell (AV.vs 25)), (0, 6, Cont.cell (AV.int IntKind.i64 (plF id))), (1, 0, Cont.arr 64 fun i => AV.int IntKind.i64 (F i)), (1, 64, Cont.arr 64 fun i => AV.bool (G i)), (1, 128, Cont.top), (25, 0, Cont.vec 1 3 0 (lst []))], 281, 87⟩) (by kernel_rfl) (by kernel_rfl) ?_ ?_
      · (simp only [All]; (repeat' apply And.intro) <;> (try intro _) <;> (try intro _) <;> first | trivial | assumption | omega | rfl | exact ⟨_, rfl, rfl⟩ | exact ⟨rfl, rfl⟩ | exact ⟨fun _ => rfl, fun _ => rfl⟩ | (unfold maxLen; omega) | (unfold i64R; first | omega | decide) | decide)
      refine evC_ret ?_
      refine then_ret ?_
      refine post_ret ?_
      refine ends_flat (vs := [AV.bool (bif bif 0 == 0 then !isF F G id else false then true else false)]) (Nat.zero_lt_succ _) (by kernel_rfl) (flat_of _ (by kernel_rfl)) rfl ?_
      refine congrArg AV.bool ?_
      unfold isF
      rw [hm]
      simp
    · have hm : mayA F G = true := (Bool.not_eq_false' _).mp hc
      have e1 : allF F G = allL F G 64 := by unfold allF; rw [hm]; rfl
      rw [e1]
      clear hc
      refine evC_skip ?_
      refine then_normal ?_
      refine evC_go0 (dec := []) (ks := [(0, 1), (0, 2), (0, 4), (0, 5), (0, 6), (0, 7), (1, 0), (1, 64), (1, 128), (25, 0)]) (s' := ⟨[(0, 1, Cont.cell (AV.int IntKind.i64 id)), (0, 2, Cont.cell (AV.ptr 1 0)), (0, 4, Cont.cell (AV.bool false)), (0, 5, Cont.cell (AV.vs 25)), (0, 6, Cont.cell (AV.int IntKind.i64 (plF id))), (0, 7, Cont.cell (AV.int IntKind.i64 0)), (1, 0, Cont.arr 64 fun i => AV.int IntKind.i64 (F i)), (1, 64, Cont.arr 64 fun i => AV.bool (G i)), (1, 128, Cont.top), (25, 0, Cont.vec 1 3 (List.length (allL F G 64)) (lst (allL F G 64)))], 185, 87⟩) (by kernel_rfl) (by kernel_rfl) ?_
      refine evC_seq ?_
      refine evC_go0 (dec := []) (ks := [(0, 1), (0, 2), (0, 4), (0, 5), (0, 6), (0, 7), (0, 8), (1, 0), (1, 64), (1, 128), (25, 0)]) (s' := ⟨[(0, 1, Cont.cell (AV.int IntKind.i64 id)), (0, 2, Cont.cell (AV.ptr 1 0)), (0, 4, Cont.cell (AV.bool false)), (0, 5, Cont.cell (AV.vs 25)), (0, 6, Cont.cell (AV.int IntKind.i64 (plF id))), (0, 7, Cont.cell (AV.int IntKind.i64 0)), (0, 8, Cont.cell (AV.int IntKind.i64 0)), (1, 0, Cont.arr 64 fun i => AV.int IntKind.i64 (F i)), (1, 64, Cont.arr 64 fun i => AV.bool (G i)), (1, 128, Cont.top), (25, 0, Cont.vec 1 3 (List.length (allL F G 64)) (lst (allL F G 64)))], 193, 87⟩) (by kernel_rfl) (by kernel_rfl) ?_
      refine evC_block ?_
      refine evC_loop (ι := { i : Nat // i ≤ 64 }) (fun x => ⟨[(0, 1, Cont.cell (AV.int IntKind.i64 id)), (0, 2, Cont.cell (AV.ptr 1 0)), (0, 4, Cont.cell (AV.bool false)), (0, 5, Cont.cell (AV.vs 2)), (0, 6, Cont.cell (AV.int IntKind.i64 (plF id))), (0, 7, .cell (.int .i64 ((allL F G x.1).length : Nat))), (0, 8, .cell (.int .i64 (x.1 : Nat))), (1, 0, Cont.arr 64 fun i => AV.int IntKind.i64 (F i)), (1, 64, Cont.arr 64 fun i => AV.bool (G i)), (1, 128, Cont.top), (2, 0, Cont.vec 1 3 (List.length (allL F G 64)) (lst (allL F G 64)))], 3, 87⟩) (fun x => 64 - x.1) ⟨0, Nat.zero_le _⟩ (wk_go [1, 25] rfl (by decide) rfl rfl ⟨⟨_, rfl, rfl⟩, ⟨_, rfl, rfl⟩, ⟨_, rfl, rfl⟩, ⟨_, rfl, rfl⟩, ⟨_, rfl, rfl⟩, ⟨_, rfl, rfl⟩, ⟨_, rfl, rfl⟩, ⟨_, rfl, rfl, fun _ _ => rfl⟩, ⟨_, rfl, rfl, fun _ _ => rfl⟩, ⟨_, rfl, trivial⟩, ⟨_, rfl, rfl, rfl, rfl, fun _ _ => rfl⟩, trivial⟩) ?_
      rintro ⟨i, hi⟩
      have hl := allL_len F G i
      have hl2 := allL_len F G 64
      refine evC_seq ?_
      refine evC_go0 (dec := []) (ks := [(0, 1), (0, 2), (0, 4), (0, 5), (0, 6), (0, 7), (0, 8), (0, 40), (1, 0), (1, 64), (1, 128), (2, 0)]) (s' := ⟨[(0, 1, Cont.cell (AV.int IntKind.i64 id)), (0, 2, Cont.cell (AV.ptr 1 0)), (0, 4, Cont.cell (AV.bool false)), (0, 5, Cont.cell (AV.vs 2)), (0, 6, Cont.cell (AV.int IntKind.i64 (plF id))), (0, 7, Cont.cell (AV.int IntKind.i64 (↑(List.length (allL F G i)) : Int))), (0, 8, Cont.cell (AV.int IntKind.i64 (↑i : Int))), (0, 40, Cont.cell (AV.bool (decide ((↑i : Int) < 64)))), (1, 0, Cont.arr 64 fun i => AV.int IntKind.i64 (F i)), (1, 64, Cont.arr 64 fun i => AV.bool (G i)), (1, 128, Cont.top), (2, 0, Cont.vec 1 3 (List.length (allL F G 64)) (lst (allL F G 64)))], 19, 87⟩) (by kernel_rfl) (by kernel_rfl) ?_
      refine evC_if (q := decide ((↑i : Int) < 64)) (by kernel_rfl) (fun hc => ?_) (fun hc => ?_)
      · have hlt : i < 64 := by have := of_decide_eq_true hc; omega
        have hF := may_get hm hlt
        clear hc
        refine evC_skip ?_
        refine then_normal ?_
        refine evC_seq ?_
        refine evC_block ?_
        refine evC_go (dec := []) (ks := [(0, 1), (0, 2), (0, 4), (0, 5), (0, 6), (0, 7), (0, 8), (0, 46), (1, 0), (1, 64), (1, 128), (2, 0)]) (ps := [(0 : Int) ≤ (↑i : Int), (↑i : Int) < (↑(64 : Nat) : Int), (0 : Int) ≤ (↑i : Int), (↑i : Int) < (↑(64 : Nat) : Int)]) (s' := ⟨[(0, 1, Cont.cell (AV.int IntKind.i64 id)), (0, 2, Cont.cell (AV.ptr 1 0)), (0, 4, Cont.cell (AV.bool false)), (0, 5, Cont.cell (AV.vs 2)), (0, 6, Cont.cell (AV.int IntKind.i64 (plF id))), (0, 7, Cont.cell (AV.int IntKind.i64 (↑(List.length (allL F G i)) : Int))), (0, 8, Cont.cell (AV.int IntKind.i64 (↑i : Int))), (0, 46, Cont.cell (AV.bool (G i))), (1, 0, Cont.arr 64 fun i => AV.int IntKind.i64 (F i)), (1, 64, Cont.arr 64 fun i => AV.bool (G i)), (1, 128, Cont.top), (2, 0, Cont.vec 1 3 (List.length (allL F G 64)) (lst (allL F G 64)))], 51, 87⟩) (by kernel_rfl) (by kernel_rfl) ?_ ?_
        · (simp only [All]; (repeat' apply And.intro) <;> (try intro _) <;> (try intro _) <;> first | trivial | assumption | omega | rfl | exact ⟨_, rfl, rfl⟩ | exact ⟨rfl, rfl⟩ | exact ⟨fun _ => rfl, fun _ => rfl⟩ | (unfold maxLen; omega) | (unfold i64R; first | omega | decide) | decide)
        refine evC_if (q := G i) (by kernel_rfl) (fun hc => ?_) (fun hc => ?_)
        · have hg : G i = true := hc
          clear hc
          have hat := allL_at (F := F) hlt hg
          refine evC_seq ?_
          refine evC_go (dec := []) (ks := [(0, 1), (0, 2), (0, 4), (0, 5), (0, 6), (0, 7), (0, 8), (0, 60), (1, 0), (1, 64), (1, 128), (2, 0)]) (ps := [List.all [!decide ((↑(List.length (allL F G i)) : Int) ≥ (↑(List.length (allL F G (64 : Nat))) : Int))] _root_.id = true → (0 : Int) ≤ (↑(List.length (allL F G i)) : Int), List.all [!decide ((↑(List.length (allL F G i)) : Int) ≥ (↑(List.length (allL F G (64 : Nat))) : Int))] _root_.id = true → (↑(List.length (allL F G i)) : Int) < (↑(List.length (allL F G (64 : Nat))) : Int), List.all [!decide ((↑(List.length (allL F G i)) : Int) ≥ (↑(List.length (allL F G (64 : Nat))) : Int))] _root_.id = true → (1 : Nat) = (1 : Nat), List.all [!decide ((↑(List.length (allL F G i)) : Int) ≥ (↑(List.length (allL F G (64 : Nat))) : Int))] _root_.id = true → (0 : Int) ≤ (↑(List.length (allL F G i)) : Int), List.all [!decide ((↑(List.length (allL F G i)) : Int) ≥ (↑(List.length (allL F G (64 : Nat))) : Int))] _root_.id = true → (↑(List.length (allL F G i)) : Int) < (↑(List.length (allL F G (64 : Nat))) : Int), List.all [!decide ((↑(List.length (allL F G i)) : Int) ≥ (↑(List.length (allL F G (64 : Nat))) : Int))] _root_.id = true → (1 : Nat) = (1 : Nat), List.all [!decide ((↑(List.length (allL F G i)) : Int) ≥ (↑(List.length (allL F G (64 : Nat))) : Int))] _root_.id = true → IsAr (fun i => AV.int IntKind.i64 (F i)) fun i => AV.bool (G i), List.all [!decide ((↑(List.length (allL F G i)) : Int) ≥ (↑(List.length (allL F G (64 : Nat))) : Int))] _root_.id = true → (0 : Int) ≤ (↑i : Int) ∧ (↑i : Int) < (64 : Int), List.all [!decide ((↑(List.length (allL F G i)) : Int) ≥ (↑(List.length (allL F G (64 : Nat))) : Int))] _root_.id = true → (0 : Int) ≤ F i ∧ F i ≤ (1048577 : Int)]) (s' := ⟨[(0, 1, Cont.cell (AV.int IntKind.i64 id)), (0, 2, Cont.cell (AV.ptr 1 0)), (0, 4, Cont.cell (AV.bool false)), (0, 5, Cont.cell (AV.vs 2)), (0, 6, Cont.cell (AV.int IntKind.i64 (plF id))), (0, 7, Cont.cell (AV.int IntKind.i64 (↑(List.length (allL F G i)) : Int))), (0, 8, Cont.cell (AV.int IntKind.i64 (↑i : Int))), (0, 60, Cont.cell (AV.bool (bif decide ((↑(List.length (allL F G i)) : Int) ≥ (↑(List.length (allL F G 64)) : Int)) then true else List.getD (allL F G 64) (List.length (allL F G i)) 0 != 64 * (F i - 1) + (↑i : Int)))), (1, 0, Cont.arr 64 fun i => AV.int IntKind.i64 (F i)), (1, 64, Cont.arr 64 fun i => AV.bool (G i)), (1, 128, Cont.top), (2, 0, Cont.vec 1 3 (List.length (allL F G 64)) (lst (allL F G 64)))], 163, 87⟩) (by kernel_rfl) (by kernel_rfl) ?_ ?_
          · (simp only [All]; (repeat' apply And.intro) <;> (try intro _) <;> (try intro _) <;> first | trivial | assumption | omega | rfl | exact ⟨_, rfl, rfl⟩ | exact ⟨rfl, rfl⟩ | exact ⟨fun _ => rfl, fun _ => rfl⟩ | (unfold maxLen; omega) | (unfold i64R; first | omega | decide) | decide)
          refine evC_if (q := bif decide ((↑(List.length (allL F G i)) : Int) ≥ (↑(List.length (allL F G 64)) : Int)) then true else List.getD (allL F G 64) (List.length (allL F G i)) 0 != 64 * (F i - 1) + (↑i : Int)) (by kernel_rfl) (fun hc => ?_) (fun hc => ?_)
          · exfalso
            have h1 : decide (((allL F G i).length : Int) ≥ ((allL F G 64).length : Int)) = false := decide_eq_false (by omega)
            simp only [h1, cond_false, lst, iv] at hc
            rw [hat.2] at hc
            have : (F i - 1) * 64 + (i : Nat) = 64 * (F i - 1) + (i : Nat) := by omega
            rw [this] at hc
            simp at hc
          clear hc
          refine evC_skip ?_
          refine then_normal ?_
          refine evC_goL0 (dec := []) (ks := [(0, 1), (0, 2), (0, 4), (0, 5), (0, 6), (0, 7), (0, 8), (1, 0), (1, 64), (1, 128), (2, 0)]) (s' := ⟨[(0, 1, Cont.cell (AV.int IntKind.i64 id)), (0, 2, Cont.cell (AV.ptr 1 0)), (0, 4, Cont.cell (AV.bool false)), (0, 5, Cont.cell (AV.vs 2)), (0, 6, Cont.cell (AV.int IntKind.i64 (plF id))), (0, 7, Cont.cell (AV.int IntKind.i64 (IntKind.i64.wrap ((↑(List.length (allL F G i)) : Int) + 1)))), (0, 8, Cont.cell (AV.int IntKind.i64 (↑i : Int))), (1, 0, Cont.arr 64 fun i => AV.int IntKind.i64 (F i)), (1, 64, Cont.arr 64 fun i => AV.bool (G i)), (1, 128, Cont.top), (2, 0, Cont.vec 1 3 (List.length (allL F G 64)) (lst (allL F G 64)))], 187, 87⟩) (by kernel_rfl) (by kernel_rfl) ?_
          refine block_normal ?_
          refine then_normal ?_
          refine evC_goL0 (dec := []) (ks := [(0, 1), (0, 2), (0, 4), (0, 5), (0, 6), (0, 7), (0, 8), (1, 0), (1, 64), (1, 128), (2, 0)]) (s' := ⟨[(0, 1, Cont.cell (AV.int IntKind.i64 id)), (0, 2, Cont.cell (AV.ptr 1 0)), (0, 4, Cont.cell (AV.bool false)), (0, 5, Cont.cell (AV.vs 2)), (0, 6, Cont.cell (AV.int IntKind.i64 (plF id))), (0, 7, Cont.cell (AV.int IntKind.i64 (IntKind.i64.wrap ((↑(List.length (allL F G i)) : Int) + 1)))), (0, 8, Cont.cell (AV.int IntKind.i64 (IntKind.i64.wrap ((↑i : Int) + 1)))), (1, 0, Cont.arr 64 fun i => AV.int IntKind.i64 (F i)), (1, 64, Cont.arr 64 fun i => AV.bool (G i)), (1, 128, Cont.top), (2, 0, Cont.vec 1 3 (List.length (allL F G 64)) (lst (allL F G 64)))], 211, 87⟩) (by kernel_rfl) (by kernel_rfl) ?_
          rw [wrap_add_one hat.1 (by omega), wrap_add_one hlt (by omega)]
          refine round_normal (⟨i + 1, by omega⟩) (wk_go [1, 2] rfl (by decide) rfl rfl ⟨⟨_, rfl, rfl⟩, ⟨_, rfl, rfl⟩, ⟨_, rfl, rfl⟩, ⟨_, rfl, rfl⟩, ⟨_, rfl, rfl⟩, ⟨_, rfl, ?_⟩, ⟨_, rfl, rfl⟩, ⟨_, rfl, ⟨rfl, fun _ _ => rfl⟩⟩, ⟨_, rfl, ⟨rfl, fun _ _ => rfl⟩⟩, ⟨_, rfl, trivial⟩, ⟨_, rfl, ⟨rfl, rfl, rfl, fun _ _ => rfl⟩⟩, trivial⟩) ?_
          · show AV.int .i64 _ = AV.int .i64 _
            rw [allL_yes hg]; simp
          · show 64 - (i + 1) < 64 - i; omega
        · have hg : G i = false := hc
          refine evC_skip ?_
          refine block_normal ?_
          refine then_normal ?_
          refine evC_goL0 (dec := []) (ks := [(0, 1), (0, 2), (0, 4), (0, 5), (0, 6), (0, 7), (0, 8), (1, 0), (1, 64), (1, 128), (2, 0)]) (s' := ⟨[(0, 1, Cont.cell (AV.int IntKind.i64 id)), (0, 2, Cont.cell (AV.ptr 1 0)), (0, 4, Cont.cell (AV.bool false)), (0, 5, Cont.cell (AV.vs 2)), (0, 6, Cont.cell (AV.int IntKind.i64 (plF id))), (0, 7, Cont.cell (AV.int IntKind.i64 (↑(List.length (allL F G i)) : Int))), (0, 8, Cont.cell (AV.int IntKind.i64 (IntKind.i64.wrap ((↑i : Int) + 1)))), (1, 0, Cont.arr 64 fun i => AV.int IntKind.i64 (F i)), (1, 64, Cont.arr 64 fun i => AV.bool (G i)), (1, 128, Cont.top), (2, 0, Cont.vec 1 3 (List.length (allL F G 64)) (lst (allL F G 64)))], 75, 87⟩) (by kernel_rfl) (by kernel_rfl) ?_
          rw [wrap_add_one hlt (by omega)]
          refine round_normal (⟨i + 1, by omega⟩) (wk_go [1, 2] rfl (by decide) rfl rfl ⟨⟨_, rfl, rfl⟩, ⟨_, rfl, rfl⟩, ⟨_, rfl, rfl⟩, ⟨_, rfl, rfl⟩, ⟨_, rfl, rfl⟩, ⟨_, rfl, ?_⟩, ⟨_, rfl, rfl⟩, ⟨_, rfl, ⟨rfl, fun _ _ => rfl⟩⟩, ⟨_, rfl, ⟨rfl, fun _ _ => rfl⟩⟩, ⟨_, rfl, trivial⟩, ⟨_, rfl, ⟨rfl, rfl, rfl, fun _ _ => rfl⟩⟩, trivial⟩) ?_
          · show AV.int .i64 _ = AV.int .i64 _
            rw [allL_no hg]
          · show 64 - (i + 1) < 64 - i; omega
      · have hlt : i = 64 := by have := of_decide_eq_false hc; omega
        subst hlt
        have hF := may_get hm (p := (plF id).toNat) (by omega)
        have h0 : isF F G id = (G (plF id).toNat && (id == 64 * (F (plF id).toNat - 1) + plF id)) := by
          unfold isF
          rw [hm]
          cases hg : G (plF id).toNat with
          | false => simp
          | true =>
            have := hF.2.2 hg
            by_cases h : id = 64 * (F (plF id).toNat - 1) + plF id
            · have h2 : 0 ≤ id := by omega
              simp [h2]
            · have h2 : (id == 64 * (F (plF id).toNat - 1) + plF id) = false := beq_eq_false_iff_ne.2 h
              rw [h2]; simp
        refine evC_exit ?_
        refine then_exit ?_
        refine round_exit ?_
        refine block_exit ?_
        refine then_normal ?_
        refine evC_go (dec := []) (ks := [(0, 4)]) (ps := [List.all [(↑(List.length (allL F G (64 : Nat))) : Int) == (↑(List.length (allL F G (64 : Nat))) : Int)] _root_.id = true → IsAr (fun i => AV.int IntKind.i64 (F i)) fun i => AV.bool (G i), List.all [(↑(List.length (allL F G (64 : Nat))) : Int) == (↑(List.length (allL F G (64 : Nat))) : Int)] _root_.id = true → i64R id, List.all [(↑(List.length (allL F G (64 : Nat))) : Int) == (↑(List.length (allL F G (64 : Nat))) : Int)] _root_.id = true → (0 : Int) ≤ plF id, List.all [(↑(List.length (allL F G (64 : Nat))) : Int) == (↑(List.length (allL F G (64 : Nat))) : Int)] _root_.id = true → plF id < (↑(64 : Nat) : Int), List.all [(↑(List.length (allL F G (64 : Nat))) : Int) == (↑(List.length (allL F G (64 : Nat))) : Int)] _root_.id = true → (0 : Int) ≤ plF id, List.all [(↑(List.length (allL F G (64 : Nat))) : Int) == (↑(List.length (allL F G (64 : Nat))) : Int)] _root_.id = true → plF id < (↑(64 : Nat) : Int), List.all [G (Int.toNat (plF id)), (↑(List.length (allL F G (64 : Nat))) : Int) == (↑(List.length (allL F G (64 : Nat))) : Int)] _root_.id = true → IsAr (fun i => AV.int IntKind.i64 (F i)) fun i => AV.bool (G i), List.all [G (Int.toNat (plF id)), (↑(List.length (allL F G (64 : Nat))) : Int) == (↑(List.length (allL F G (64 : Nat))) : Int)] _root_.id = true → (0 : Int) ≤ plF id ∧ plF id < (64 : Int), List.all [G (Int.toNat (plF id)), (↑(List.length (allL F G (64 : Nat))) : Int) == (↑(List.length (allL F G (64 : Nat))) : Int)] _root_.id = true → (0 : Int) ≤ F (Int.toNat (plF id)) ∧ F (Int.toNat (plF id)) ≤ (1048577 : Int)]) (s' := ⟨[(0, 4, Cont.cell (AV.bool (bif bif (↑(List.length (allL F G 64)) : Int) == (↑(List.length (allL F G 64)) : Int) then isF F G id == bif G (Int.toNat (plF id)) then id == 64 * (F (Int.toNat (plF id)) - 1) + plF id else false else false then true else false)))], 219, 87⟩) (by kernel_rfl) (by kernel_rfl) ?_ ?_
        · (simp only [All]; (repeat' apply And.intro) <;> (try intro _) <;> (try intro _) <;> first | trivial | assumption | omega | rfl | exact ⟨_, rfl, rfl⟩ | exact ⟨rfl, rfl⟩ | exact ⟨fun _ => rfl, fun _ => rfl⟩ | (unfold maxLen; omega) | (unfold i64R; first | omega | decide) | decide)
        refine evC_ret ?_
        refine post_ret ?_
        refine ends_flat (vs := [AV.bool (bif bif (↑(List.length (allL F G 64)) : Int) == (↑(List.length (allL F G 64)) : Int) then isF F G id == bif G (Int.toNat (plF id)) then id == 64 * (F (Int.toNat (plF id)) - 1) + plF id else false else false then true else false)]) (Nat.zero_lt_succ _) (by kernel_rfl) (flat_of _ (by kernel_rfl)) rfl ?_
        refine congrArg AV.bool ?_
        rw [h0, cond_and]
        simp
  · cases e
end Go.Eng.S11
