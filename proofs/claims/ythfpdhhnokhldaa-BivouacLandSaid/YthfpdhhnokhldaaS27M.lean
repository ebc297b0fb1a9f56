/- Seat top, land: the law, walked. -/
import Derived.Test.YthfpdhhnokhldaaEngX
import Derived.Test.YthfpdhhnokhldaaS27L
set_option linter.unusedSimpArgs false
set_option linter.unusedVariables false
namespace Go.Eng.S27
open Go.Proofs Go.IntWalk
set_option maxRecDepth 10000

theorem nH_cut (q : Nat → Hit) : (fun i => nH q (Int.toNat 0 + i)) = nH q := funext fun i => by simp
def sLand : Spec := fun args _ _ => match args with
  | [.agg [.int .i64 W, .int .i64 H, .int .i64 A, .rs 1 n b f, .rs 4 m c q, .int .i64 x, .int .i64 y]] => some ⟨[(IsU n f ∧ (∀ i, i < m → q i = nH (Hf q) i)) ∧ n ≤ maxLen ∧ m ≤ maxLen], .bool true, [], []⟩
  | _ => none
theorem land_ok : SpecOK Try.prog 3 sLand := by
  refine spec_own (by kernel_rfl) T_ok (sget_cons few_ok (sget_cons lowers_ok (sget_cons all_ok (sget_cons rcheck_ok (sget_cons height_ok (sget_cons on_ok (sget_cons open_ok sget_nil))))))) Try.func3 rfl rfl fun args hr nb out e => ?_
  unfold sLand at e
  split at e
  · rename_i W H A n b f m c q x y
    injection e with e; subst e
    refine ⟨(fun _ h => nomatch h), true, [.agg [.int .i64 W, .int .i64 H, .int .i64 A, .rs 1 n false (nU (U f)), .rs 4 m false (nH (Hf q)), .int .i64 x, .int .i64 y]], rfl, fun hs => ?_⟩
    obtain ⟨⟨h1, h3⟩, h2, h4⟩ := hs _ List.mem_cons_self
    refine ⟨.agg _ _ _ _ rfl (fun i x y e1 e2 => ?_) (fun k g hk => ?_) .nil, ?_⟩
    · match i with
      | 0 => cases e1; cases e2; exact .same _ _ (.int _ _)
      | 1 => cases e1; cases e2; exact .same _ _ (.int _ _)
      | 2 => cases e1; cases e2; exact .same _ _ (.int _ _)
      | 3 => cases e1; cases e2; exact .rs _ _ _ _ _ _ fun i hi => ⟨(h1.get i hi).1, (nU_flat _ i).has⟩
      | 4 => cases e1; cases e2; exact .rs _ _ _ _ _ _ fun i hi => ⟨h3 i hi, (nH_flat _ i).has⟩
      | 5 => cases e1; cases e2; exact .same _ _ (.int _ _)
      | 6 => cases e1; cases e2; exact .same _ _ (.int _ _)
      | i + 7 => simp at e1
    · simp only [List.mem_cons, List.not_mem_nil, or_false] at hk
      rcases hk with hk | hk | hk | hk | hk | hk | hk <;> cases hk
    have hu : ∀ i, i < n → 0 ≤ U f i ∧ U f i ≤ 255 := fun i hi => (h1.get i hi).2
    clear hs h1 h3
    unfold maxLen at h2 h4
    generalize U f = u at hu ⊢
    generalize Hf q = q
    have i1 : IsU n (nU u) := isU hu
    have hcut := cut43_le n
    have i1c : IsU (cut43 n) (nU u) := isU fun i hi => hu i (by unfold cut43 at hi; cases hb : Nat.blt 4300 n with | true => rw [hb] at hi; have hi : i < 4300 := hi; have : 4300 < n := (by simpa [Nat.blt_eq] using hb); omega | false => rw [hb] at hi; exact hi)
    have huc : ∀ i, i < cut43 n → 0 ≤ u i ∧ u i ≤ 255 := fun i hi => (i1c.get i hi).2
    refine evC_go0 (dec := []) (ks := [(0, 1), (0, 2), (1, 0), (1, 1), (1, 2), (1, 3), (1, 4), (1, 5), (1, 6), (1, 7)]) (s' := ⟨[(0, 1, Cont.cell (AV.ptr 1 0)), (0, 2, Cont.cell (AV.bool false)), (1, 0, Cont.cell (AV.int IntKind.i64 W)), (1, 1, Cont.cell (AV.int IntKind.i64 H)), (1, 2, Cont.cell (AV.int IntKind.i64 A)), (1, 3, Cont.cell (AV.rs 1 n false (nU u))), (1, 4, Cont.cell (AV.rs 4 m false (nH q))), (1, 5, Cont.cell (AV.int IntKind.i64 x)), (1, 6, Cont.cell (AV.int IntKind.i64 y)), (1, 7, Cont.top)], 17, 180⟩) (by kernel_rfl) (by kernel_rfl) ?_
    refine evC_go (dec := []) (ks := [(0, 2), (0, 3), (0, 4), (0, 5), (0, 6), (89, 0), (89, 1), (89, 2), (89, 3), (89, 4)]) (ps := [IsU n (nU u), n ≤ maxLen]) (s' := ⟨[(0, 2, Cont.cell (AV.bool false)), (0, 3, Cont.cell (AV.ptr 89 0)), (0, 4, Cont.cell (AV.rs 4 m false (nH q))), (0, 5, Cont.cell (AV.int IntKind.i64 x)), (0, 6, Cont.cell (AV.int IntKind.i64 y)), (89, 0, Cont.cell (AV.int IntKind.i64 W)), (89, 1, Cont.cell (AV.int IntKind.i64 H)), (89, 2, Cont.cell (AV.int IntKind.i64 A)), (89, 3, Cont.cell (AV.rs 1 (cut43 n) false (nU (U (nU u))))), (89, 4, Cont.top)], 129, 180⟩) (by kernel_rfl) (by kernel_rfl) ?_ ?_
    · exact ⟨i1, h2⟩
    rw [U_nU]
    generalize cut43 n = n at i1c huc hcut
    refine evC_cutTo (ι := Unit) (fun _ => ⟨[(0, 2, Cont.cell (AV.bool false)), (0, 3, Cont.cell (AV.ptr 1 0)), (0, 4, .cell (.rs 4 (cut20 m) false (nH q))), (0, 5, Cont.cell (AV.int IntKind.i64 x)), (0, 6, Cont.cell (AV.int IntKind.i64 y)), (1, 0, Cont.cell (AV.int IntKind.i64 W)), (1, 1, Cont.cell (AV.int IntKind.i64 H)), (1, 2, Cont.cell (AV.int IntKind.i64 A)), (1, 3, Cont.cell (AV.rs 1 n false (nU u))), (1, 4, Cont.top)], 2, 180⟩) ?_ ?_
    · refine evC_go0 (dec := []) (ks := [(0, 2), (0, 3), (0, 4), (0, 5), (0, 6), (0, 31), (89, 0), (89, 1), (89, 2), (89, 3), (89, 4)]) (s' := ⟨[(0, 2, Cont.cell (AV.bool false)), (0, 3, Cont.cell (AV.ptr 89 0)), (0, 4, Cont.cell (AV.rs 4 m false (nH q))), (0, 5, Cont.cell (AV.int IntKind.i64 x)), (0, 6, Cont.cell (AV.int IntKind.i64 y)), (0, 31, Cont.cell (AV.bool (decide ((↑m : Int) > 20)))), (89, 0, Cont.cell (AV.int IntKind.i64 W)), (89, 1, Cont.cell (AV.int IntKind.i64 H)), (89, 2, Cont.cell (AV.int IntKind.i64 A)), (89, 3, Cont.cell (AV.rs 1 n false (nU u))), (89, 4, Cont.top)], 153, 180⟩) (by kernel_rfl) (by kernel_rfl) ?_
      refine evC_if (q := decide ((↑m : Int) > 20)) (by kernel_rfl) (fun hc => ?_) (fun hc => ?_)
      · have hg : 20 < m := by have := of_decide_eq_true hc; omega
        have hk : cut20 m = 20 := by unfold cut20; rw [nblt_yes hg]; rfl
        refine evC_goL (dec := []) (ks := [(0, 2), (0, 3), (0, 4), (0, 5), (0, 6), (89, 0), (89, 1), (89, 2), (89, 3), (89, 4)]) (ps := [(0 : Int) ≤ (0 : Int), (0 : Int) ≤ (20 : Int), (20 : Int) ≤ (↑m : Int), (20 : Int) = (20 : Int), (4 : Nat) = (4 : Nat), false = true → true = true]) (s' := ⟨[(0, 2, Cont.cell (AV.bool false)), (0, 3, Cont.cell (AV.ptr 89 0)), (0, 4, Cont.cell (AV.rs 4 20 false fun i => nH q (Int.toNat 0 + i))), (0, 5, Cont.cell (AV.int IntKind.i64 x)), (0, 6, Cont.cell (AV.int IntKind.i64 y)), (89, 0, Cont.cell (AV.int IntKind.i64 W)), (89, 1, Cont.cell (AV.int IntKind.i64 H)), (89, 2, Cont.cell (AV.int IntKind.i64 A)), (89, 3, Cont.cell (AV.rs 1 n false (nU u))), (89, 4, Cont.top)], 177, 180⟩) (by kernel_rfl) (by kernel_rfl) ?_ ?_
        · (simp only [All]; (repeat' apply And.intro) <;> (try intro _) <;> (try intro _) <;> (repeat' apply And.intro) <;> (try intro _) <;> (try intro _) <;> first | trivial | assumption | exact .inr trivial | exact .inr rfl | omega | rfl | exact ⟨_, rfl, rfl⟩ | exact ⟨rfl, rfl⟩ | exact ⟨fun _ => rfl, fun _ => rfl⟩ | (unfold maxLen; omega) | (unfold i64R; first | omega | decide) | decide)
        rw [nH_cut]
        refine cut_normal (()) (wk_go [89] rfl (by decide) rfl rfl ⟨⟨_, rfl, rfl⟩, ⟨_, rfl, rfl⟩, ⟨_, rfl, ?_⟩, ⟨_, rfl, rfl⟩, ⟨_, rfl, rfl⟩, ⟨_, rfl, rfl⟩, ⟨_, rfl, rfl⟩, ⟨_, rfl, rfl⟩, ⟨_, rfl, rfl⟩, ⟨_, rfl, trivial⟩, trivial⟩)
        rw [hk]; rfl
      · have hg : ¬ 20 < m := by have := of_decide_eq_false hc; omega
        have hk : cut20 m = m := by unfold cut20; rw [nblt_no hg]; rfl
        refine evC_skip ?_
        refine cut_normal (()) (wk_go [89] rfl (by decide) rfl rfl ⟨⟨_, rfl, rfl⟩, ⟨_, rfl, rfl⟩, ⟨_, rfl, ?_⟩, ⟨_, rfl, rfl⟩, ⟨_, rfl, rfl⟩, ⟨_, rfl, rfl⟩, ⟨_, rfl, rfl⟩, ⟨_, rfl, rfl⟩, ⟨_, rfl, rfl⟩, ⟨_, rfl, trivial⟩, trivial⟩)
        rw [hk]; rfl
    intro _
    generalize cut20 m = m
    refine evC_seq ?_
    refine evC_go0 (dec := []) (ks := [(0, 2), (0, 3), (0, 4), (0, 5), (0, 6), (0, 36), (1, 0), (1, 1), (1, 2), (1, 3), (1, 4)]) (s' := ⟨[(0, 2, Cont.cell (AV.bool false)), (0, 3, Cont.cell (AV.ptr 1 0)), (0, 4, Cont.cell (AV.rs 4 m false (nH q))), (0, 5, Cont.cell (AV.int IntKind.i64 x)), (0, 6, Cont.cell (AV.int IntKind.i64 y)), (0, 36, Cont.cell (AV.bool false)), (1, 0, Cont.cell (AV.int IntKind.i64 W)), (1, 1, Cont.cell (AV.int IntKind.i64 H)), (1, 2, Cont.cell (AV.int IntKind.i64 A)), (1, 3, Cont.cell (AV.rs 1 n false (nU u))), (1, 4, Cont.top)], 26, 180⟩) (by kernel_rfl) (by kernel_rfl) ?_
    refine evC_if (q := false) (by kernel_rfl) (fun hc => ?_) (fun hc => ?_)
    · cases hc
    refine evC_skip ?_
    refine then_normal ?_
    refine evC_go (dec := []) (ks := [(0, 2), (0, 3), (0, 5), (0, 6), (0, 7), (0, 8), (1, 0), (1, 1), (1, 2), (1, 3), (1, 4), (42, 0), (74, 0), (74, 1), (74, 2), (74, 3), (74, 4)]) (ps := [IsU n (nU u), ∀ (i : Nat), i < m → nH q i = nH (Hf (nH q)) i]) (s' := ⟨[(0, 2, Cont.cell (AV.bool false)), (0, 3, Cont.cell (AV.ptr 1 0)), (0, 5, Cont.cell (AV.int IntKind.i64 x)), (0, 6, Cont.cell (AV.int IntKind.i64 y)), (0, 7, Cont.cell (AV.ptr 74 0)), (0, 8, Cont.cell (AV.int IntKind.i64 (stE W H A n (Hf (nH q)) m))), (1, 0, Cont.cell (AV.int IntKind.i64 W)), (1, 1, Cont.cell (AV.int IntKind.i64 H)), (1, 2, Cont.cell (AV.int IntKind.i64 A)), (1, 3, Cont.cell (AV.rs 1 n false (nU u))), (1, 4, Cont.top), (42, 0, Cont.vec 1 5 (bif stE W H A n (Hf (nH q)) m != 0 then 0 else n) (nU (stN W (Hf (nH q)) (U (nU u)) m))), (74, 0, Cont.cell (AV.int IntKind.i64 (bif stE W H A n (Hf (nH q)) m != 0 then 0 else W))), (74, 1, Cont.cell (AV.int IntKind.i64 (bif stE W H A n (Hf (nH q)) m != 0 then 0 else H))), (74, 2, Cont.cell (AV.int IntKind.i64 (bif stE W H A n (Hf (nH q)) m != 0 then 0 else A))), (74, 3, Cont.cell (AV.vs 42)), (74, 4, Cont.top)], 98, 180⟩) (by kernel_rfl) (by kernel_rfl) ?_ ?_
    · exact ⟨i1c, fun _ _ => rfl⟩
    rw [U_nU, Hf_nH]
    refine evC_wk (s' := ⟨[(0, 2, Cont.cell (AV.bool false)), (0, 3, Cont.cell (AV.ptr 1 0)), (0, 5, Cont.cell (AV.int IntKind.i64 x)), (0, 6, Cont.cell (AV.int IntKind.i64 y)), (0, 7, Cont.cell (AV.ptr 2 0)), (0, 8, Cont.cell (AV.int IntKind.i64 (stE W H A n q m))), (1, 0, Cont.cell (AV.int IntKind.i64 W)), (1, 1, Cont.cell (AV.int IntKind.i64 H)), (1, 2, Cont.cell (AV.int IntKind.i64 A)), (1, 3, Cont.cell (AV.rs 1 n false (nU u))), (1, 4, Cont.top), (2, 0, Cont.cell (AV.int IntKind.i64 (bif stE W H A n q m != 0 then 0 else W))), (2, 1, Cont.cell (AV.int IntKind.i64 (bif stE W H A n q m != 0 then 0 else H))), (2, 2, Cont.cell (AV.int IntKind.i64 (bif stE W H A n q m != 0 then 0 else A))), (2, 3, Cont.cell (AV.rs 1 (bif stE W H A n q m != 0 then 0 else n) false (nU (stN W q u m)))), (2, 4, Cont.top)], 3, 180⟩) _ (.trans (.frz 42 1 5 (bif stE W H A n q m != 0 then 0 else n) (nU (stN W q u m)) (Nat.le_of_ble_eq_true rfl) rfl) (wk_go [1, 74] rfl (by decide) rfl rfl ⟨⟨_, rfl, rfl⟩, ⟨_, rfl, rfl⟩, ⟨_, rfl, rfl⟩, ⟨_, rfl, rfl⟩, ⟨_, rfl, rfl⟩, ⟨_, rfl, rfl⟩, ⟨_, rfl, rfl⟩, ⟨_, rfl, rfl⟩, ⟨_, rfl, rfl⟩, ⟨_, rfl, rfl⟩, ⟨_, rfl, trivial⟩, ⟨_, rfl, rfl⟩, ⟨_, rfl, rfl⟩, ⟨_, rfl, rfl⟩, ⟨_, rfl, rfl⟩, ⟨_, rfl, trivial⟩, trivial⟩)) ?_
    have hv := fun i (hi : i < n) => stN_rng (W := W) (q := q) (huc i hi).1 m
    have hsE : stE W H A n q m = 0 → chk W H A n = 0 := by
      intro h
      unfold stE at h
      cases hb : (chk W H A n != 0) with
      | true => rw [hb] at h; cases h
      | false => simpa using hb
    generalize stN W q u m = v at hv ⊢
    have i2c : IsU n (nU v) := isU fun i hi => ⟨(hv i hi).1, Int.le_trans (hv i hi).2 (huc i hi).2⟩
    generalize stE W H A n q m = e at hsE ⊢
    refine evC_seq ?_
    refine evC_go0 (dec := []) (ks := [(0, 2), (0, 3), (0, 5), (0, 6), (0, 7), (0, 44), (1, 0), (1, 1), (1, 2), (1, 3), (1, 4), (2, 0), (2, 1), (2, 2), (2, 3), (2, 4)]) (s' := ⟨[(0, 2, Cont.cell (AV.bool false)), (0, 3, Cont.cell (AV.ptr 1 0)), (0, 5, Cont.cell (AV.int IntKind.i64 x)), (0, 6, Cont.cell (AV.int IntKind.i64 y)), (0, 7, Cont.cell (AV.ptr 2 0)), (0, 44, Cont.cell (AV.bool (e != 0))), (1, 0, Cont.cell (AV.int IntKind.i64 W)), (1, 1, Cont.cell (AV.int IntKind.i64 H)), (1, 2, Cont.cell (AV.int IntKind.i64 A)), (1, 3, Cont.cell (AV.rs 1 n false (nU u))), (1, 4, Cont.top), (2, 0, Cont.cell (AV.int IntKind.i64 (bif e != 0 then 0 else W))), (2, 1, Cont.cell (AV.int IntKind.i64 (bif e != 0 then 0 else H))), (2, 2, Cont.cell (AV.int IntKind.i64 (bif e != 0 then 0 else A))), (2, 3, Cont.cell (AV.rs 1 (bif e != 0 then 0 else n) false (nU v))), (2, 4, Cont.top)], 19, 180⟩) (by kernel_rfl) (by kernel_rfl) ?_
    refine evC_if (q := e != 0) (by kernel_rfl) (fun hc => ?_) (fun hc => ?_)
    · rw [hc]
      simp only [cond_true]
      refine evC_go0 (dec := []) (ks := [(0, 2), (0, 3), (0, 5), (0, 6), (0, 7), (1, 0), (1, 1), (1, 2), (1, 3), (1, 4), (2, 0), (2, 1), (2, 2), (2, 3), (2, 4)]) (s' := ⟨[(0, 2, Cont.cell (AV.bool true)), (0, 3, Cont.cell (AV.ptr 1 0)), (0, 5, Cont.cell (AV.int IntKind.i64 x)), (0, 6, Cont.cell (AV.int IntKind.i64 y)), (0, 7, Cont.cell (AV.ptr 2 0)), (1, 0, Cont.cell (AV.int IntKind.i64 W)), (1, 1, Cont.cell (AV.int IntKind.i64 H)), (1, 2, Cont.cell (AV.int IntKind.i64 A)), (1, 3, Cont.cell (AV.rs 1 n false (nU u))), (1, 4, Cont.top), (2, 0, Cont.cell (AV.int IntKind.i64 0)), (2, 1, Cont.cell (AV.int IntKind.i64 0)), (2, 2, Cont.cell (AV.int IntKind.i64 0)), (2, 3, Cont.cell (AV.rs 1 0 false (nU v))), (2, 4, Cont.top)], 59, 180⟩) (by kernel_rfl) (by kernel_rfl) ?_
      refine evC_ret ?_
      refine then_ret ?_
      refine post_ret ?_
      refine ends_flat (vs := [AV.bool true]) (Nat.zero_lt_succ _) (by kernel_rfl) (flat_of _ (by kernel_rfl)) rfl ?_
      rfl
    · rw [hc]
      have h0 : chk W H A n = 0 := hsE (by simpa using hc)
      clear hc hsE
      simp only [cond_false]
      obtain ⟨g1, g2⟩ := chk_get h0
      obtain ⟨r1, r2, r3, r4, r5⟩ := rightD_get g1
      refine evC_skip ?_
      refine then_normal ?_
      refine evC_seq ?_
      refine evC_go (dec := []) (ks := [(0, 2), (0, 3), (0, 5), (0, 6), (0, 7), (0, 77), (1, 0), (1, 1), (1, 2), (1, 3), (1, 4), (2, 0), (2, 1), (2, 2), (2, 3), (2, 4)]) (ps := [IsU n (nU u), List.all [!chk W H A n != (0 : Int)] id = true → IsU n (nU v)]) (s' := ⟨[(0, 2, Cont.cell (AV.bool false)), (0, 3, Cont.cell (AV.ptr 1 0)), (0, 5, Cont.cell (AV.int IntKind.i64 x)), (0, 6, Cont.cell (AV.int IntKind.i64 y)), (0, 7, Cont.cell (AV.ptr 2 0)), (0, 77, Cont.cell (AV.bool (bif bif bif bif chk W H A n != 0 then true else chk W H A n != 0 then true else W != W then true else H != H then true else A != A))), (1, 0, Cont.cell (AV.int IntKind.i64 W)), (1, 1, Cont.cell (AV.int IntKind.i64 H)), (1, 2, Cont.cell (AV.int IntKind.i64 A)), (1, 3, Cont.cell (AV.rs 1 n false (nU u))), (1, 4, Cont.top), (2, 0, Cont.cell (AV.int IntKind.i64 W)), (2, 1, Cont.cell (AV.int IntKind.i64 H)), (2, 2, Cont.cell (AV.int IntKind.i64 A)), (2, 3, Cont.cell (AV.rs 1 n false (nU v))), (2, 4, Cont.top)], 251, 180⟩) (by kernel_rfl) (by kernel_rfl) ?_ ?_
      · exact ⟨i1c, fun _ => i2c⟩
      refine evC_if (q := bif bif bif bif chk W H A n != 0 then true else chk W H A n != 0 then true else W != W then true else H != H then true else A != A) (by kernel_rfl) (fun hc => ?_) (fun hc => ?_)
      · simp [h0] at hc
      clear hc
      refine evC_skip ?_
      refine then_normal ?_
      refine evC_go (dec := []) (ks := [(0, 2), (0, 3), (0, 5), (0, 6), (0, 7), (0, 9), (0, 10), (1, 0), (1, 1), (1, 2), (1, 3), (1, 4), (2, 0), (2, 1), (2, 2), (2, 3), (2, 4)]) (ps := [IsU n (nU u)]) (s' := ⟨[(0, 2, Cont.cell (AV.bool false)), (0, 3, Cont.cell (AV.ptr 1 0)), (0, 5, Cont.cell (AV.int IntKind.i64 x)), (0, 6, Cont.cell (AV.int IntKind.i64 y)), (0, 7, Cont.cell (AV.ptr 2 0)), (0, 9, Cont.cell (AV.int IntKind.i64 (hgtV W H A n (U (nU u)) x y))), (0, 10, Cont.cell (AV.int IntKind.i64 (hgtE W H A n x y))), (1, 0, Cont.cell (AV.int IntKind.i64 W)), (1, 1, Cont.cell (AV.int IntKind.i64 H)), (1, 2, Cont.cell (AV.int IntKind.i64 A)), (1, 3, Cont.cell (AV.rs 1 n false (nU u))), (1, 4, Cont.top), (2, 0, Cont.cell (AV.int IntKind.i64 W)), (2, 1, Cont.cell (AV.int IntKind.i64 H)), (2, 2, Cont.cell (AV.int IntKind.i64 A)), (2, 3, Cont.cell (AV.rs 1 n false (nU v))), (2, 4, Cont.top)], 323, 180⟩) (by kernel_rfl) (by kernel_rfl) ?_ ?_
      · exact i1c
      refine evC_go (dec := []) (ks := [(0, 2), (0, 3), (0, 5), (0, 6), (0, 7), (0, 9), (0, 10), (0, 11), (0, 12), (1, 0), (1, 1), (1, 2), (1, 3), (1, 4), (2, 0), (2, 1), (2, 2), (2, 3), (2, 4)]) (ps := [IsU n (nU v)]) (s' := ⟨[(0, 2, Cont.cell (AV.bool false)), (0, 3, Cont.cell (AV.ptr 1 0)), (0, 5, Cont.cell (AV.int IntKind.i64 x)), (0, 6, Cont.cell (AV.int IntKind.i64 y)), (0, 7, Cont.cell (AV.ptr 2 0)), (0, 9, Cont.cell (AV.int IntKind.i64 (hgtV W H A n (U (nU u)) x y))), (0, 10, Cont.cell (AV.int IntKind.i64 (hgtE W H A n x y))), (0, 11, Cont.cell (AV.int IntKind.i64 (hgtV W H A n (U (nU v)) x y))), (0, 12, Cont.cell (AV.int IntKind.i64 (hgtE W H A n x y))), (1, 0, Cont.cell (AV.int IntKind.i64 W)), (1, 1, Cont.cell (AV.int IntKind.i64 H)), (1, 2, Cont.cell (AV.int IntKind.i64 A)), (1, 3, Cont.cell (AV.rs 1 n false (nU u))), (1, 4, Cont.top), (2, 0, Cont.cell (AV.int IntKind.i64 W)), (2, 1, Cont.cell (AV.int IntKind.i64 H)), (2, 2, Cont.cell (AV.int IntKind.i64 A)), (2, 3, Cont.cell (AV.rs 1 n false (nU v))), (2, 4, Cont.top)], 395, 180⟩) (by kernel_rfl) (by kernel_rfl) ?_ ?_
      · exact i2c
      refine evC_seq ?_
      refine evC_go (dec := []) (ks := [(0, 2), (0, 3), (0, 7), (0, 110), (1, 0), (1, 1), (1, 2), (1, 3), (1, 4), (2, 0), (2, 1), (2, 2), (2, 3), (2, 4)]) (ps := [List.all [!bif hgtE W H A n x y != hgtE W H A n x y then true else decide (hgtV W H A n (U (nU v)) x y > hgtV W H A n (U (nU u)) x y)] id = true → IsU n (nU u), List.all [!bif hgtE W H A n x y != hgtE W H A n x y then true else decide (hgtV W H A n (U (nU v)) x y > hgtV W H A n (U (nU u)) x y)] id = true → IsU n (nU v)]) (s' := ⟨[(0, 2, Cont.cell (AV.bool false)), (0, 3, Cont.cell (AV.ptr 1 0)), (0, 7, Cont.cell (AV.ptr 2 0)), (0, 110, Cont.cell (AV.bool (bif bif hgtE W H A n x y != hgtE W H A n x y then true else decide (hgtV W H A n (U (nU v)) x y > hgtV W H A n (U (nU u)) x y) then true else !onB W H A n x y == onB W H A n x y))), (1, 0, Cont.cell (AV.int IntKind.i64 W)), (1, 1, Cont.cell (AV.int IntKind.i64 H)), (1, 2, Cont.cell (AV.int IntKind.i64 A)), (1, 3, Cont.cell (AV.rs 1 n false (nU u))), (1, 4, Cont.top), (2, 0, Cont.cell (AV.int IntKind.i64 W)), (2, 1, Cont.cell (AV.int IntKind.i64 H)), (2, 2, Cont.cell (AV.int IntKind.i64 A)), (2, 3, Cont.cell (AV.rs 1 n false (nU v))), (2, 4, Cont.top)], 547, 180⟩) (by kernel_rfl) (by kernel_rfl) ?_ ?_
      · exact ⟨fun _ => i1c, fun _ => i2c⟩
      rw [U_nU, U_nU]
      have hm := hgt_mono (W := W) (H := H) (A := A) (n := n) (u := u) (v := v) (x := x) (y := y) fun k hk => (hv k hk).2
      refine evC_if (q := bif bif hgtE W H A n x y != hgtE W H A n x y then true else decide (hgtV W H A n v x y > hgtV W H A n u x y) then true else !onB W H A n x y == onB W H A n x y) (by kernel_rfl) (fun hc => ?_) (fun hc => ?_)
      · have : ¬ hgtV W H A n v x y > hgtV W H A n u x y := by omega
        simp [this] at hc
      clear hc hm
      have hWH : 1 ≤ W * H ∧ W * H ≤ 4225 := by
        have a1 := mul_le_of (a := 1) (b := 1) (m := W) (n := H) ⟨by omega, by omega⟩ ⟨by omega, by omega⟩
        have a2 : (W + 1) * (H + 1) = W * H + W + H + 1 := by rw [Int.mul_add, Int.add_mul, Int.mul_one, Int.one_mul]; omega
        omega
      have eWH : IntKind.i64.wrap (W * H) = W * H := i64_in _ (by omega)
      refine evC_skip ?_
      refine then_normal ?_
      refine evC_seq ?_
      refine evC_go0 (dec := []) (ks := [(0, 2), (0, 3), (0, 7), (0, 13), (1, 0), (1, 1), (1, 2), (1, 3), (1, 4), (2, 0), (2, 1), (2, 2), (2, 3), (2, 4)]) (s' := ⟨[(0, 2, Cont.cell (AV.bool false)), (0, 3, Cont.cell (AV.ptr 1 0)), (0, 7, Cont.cell (AV.ptr 2 0)), (0, 13, Cont.cell (AV.int IntKind.i64 0)), (1, 0, Cont.cell (AV.int IntKind.i64 W)), (1, 1, Cont.cell (AV.int IntKind.i64 H)), (1, 2, Cont.cell (AV.int IntKind.i64 A)), (1, 3, Cont.cell (AV.rs 1 n false (nU u))), (1, 4, Cont.top), (2, 0, Cont.cell (AV.int IntKind.i64 W)), (2, 1, Cont.cell (AV.int IntKind.i64 H)), (2, 2, Cont.cell (AV.int IntKind.i64 A)), (2, 3, Cont.cell (AV.rs 1 n false (nU v))), (2, 4, Cont.top)], 555, 180⟩) (by kernel_rfl) (by kernel_rfl) ?_
      refine evC_block ?_
      refine evC_loop (ι := { k : Nat // (k : Int) ≤ W * H }) (fun k => ⟨[(0, 2, Cont.cell (AV.bool false)), (0, 3, Cont.cell (AV.ptr 1 0)), (0, 7, Cont.cell (AV.ptr 2 0)), (0, 13, .cell (.int .i64 (k.1 : Nat))), (1, 0, Cont.cell (AV.int IntKind.i64 W)), (1, 1, Cont.cell (AV.int IntKind.i64 H)), (1, 2, Cont.cell (AV.int IntKind.i64 A)), (1, 3, Cont.cell (AV.rs 1 n false (nU u))), (1, 4, Cont.top), (2, 0, Cont.cell (AV.int IntKind.i64 W)), (2, 1, Cont.cell (AV.int IntKind.i64 H)), (2, 2, Cont.cell (AV.int IntKind.i64 A)), (2, 3, Cont.cell (AV.rs 1 n false (nU v))), (2, 4, Cont.top)], 3, 180⟩) (fun k => 5000 - k.1) ⟨0, by show ((0 : Nat) : Int) ≤ _; omega⟩ (wk_go [1, 2] rfl (by decide) rfl rfl ⟨⟨_, rfl, rfl⟩, ⟨_, rfl, rfl⟩, ⟨_, rfl, rfl⟩, ⟨_, rfl, rfl⟩, ⟨_, rfl, rfl⟩, ⟨_, rfl, rfl⟩, ⟨_, rfl, rfl⟩, ⟨_, rfl, rfl⟩, ⟨_, rfl, trivial⟩, ⟨_, rfl, rfl⟩, ⟨_, rfl, rfl⟩, ⟨_, rfl, rfl⟩, ⟨_, rfl, rfl⟩, ⟨_, rfl, trivial⟩, trivial⟩) ?_
      rintro ⟨k, hk⟩
      refine evC_seq ?_
      refine evC_go0 (dec := []) (ks := [(0, 2), (0, 3), (0, 7), (0, 13), (0, 117), (1, 0), (1, 1), (1, 2), (1, 3), (1, 4), (2, 0), (2, 1), (2, 2), (2, 3), (2, 4)]) (s' := ⟨[(0, 2, Cont.cell (AV.bool false)), (0, 3, Cont.cell (AV.ptr 1 0)), (0, 7, Cont.cell (AV.ptr 2 0)), (0, 13, Cont.cell (AV.int IntKind.i64 (↑k : Int))), (0, 117, Cont.cell (AV.bool (decide ((↑k : Int) < IntKind.i64.wrap (W * H))))), (1, 0, Cont.cell (AV.int IntKind.i64 W)), (1, 1, Cont.cell (AV.int IntKind.i64 H)), (1, 2, Cont.cell (AV.int IntKind.i64 A)), (1, 3, Cont.cell (AV.rs 1 n false (nU u))), (1, 4, Cont.top), (2, 0, Cont.cell (AV.int IntKind.i64 W)), (2, 1, Cont.cell (AV.int IntKind.i64 H)), (2, 2, Cont.cell (AV.int IntKind.i64 A)), (2, 3, Cont.cell (AV.rs 1 n false (nU v))), (2, 4, Cont.top)], 59, 180⟩) (by kernel_rfl) (by kernel_rfl) ?_
      rw [eWH]
      refine evC_if (q := decide ((↑k : Int) < W * H)) (by kernel_rfl) (fun hc => ?_) (fun hc => ?_)
      · have hlt := of_decide_eq_true hc
        clear hc
        have hk0 : 0 ≤ (k : Int) := Int.natCast_nonneg k
        have hW0 : W ≠ 0 := by omega
        have hi : 0 ≤ Int.tmod k W ∧ Int.tmod k W < W := by
          rw [Int.tmod_eq_emod_of_nonneg hk0]
          exact ⟨Int.emod_nonneg _ hW0, Int.emod_lt_of_pos _ (by omega)⟩
        have hj : 0 ≤ Int.tdiv k W ∧ Int.tdiv k W < H := by
          rw [Int.tdiv_eq_ediv_of_nonneg hk0]
          exact ⟨Int.ediv_nonneg hk0 (by omega), Int.ediv_lt_of_lt_mul (by omega) (by rw [Int.mul_comm]; exact hlt)⟩
        have hjw : IntKind.i64.wrap (Int.tdiv k W) = Int.tdiv k W := i64_in _ (by omega)
        obtain ⟨_, _, o1⟩ := openE_no h0 (k := 2) (by omega) hi hj
        obtain ⟨_, _, o2⟩ := openE_no h0 (k := 5) (by omega) hi hj
        have o3 := air_open (u := v) h0 hi hj
        have o4 := ship_stays (W := W) (H := H) (A := A) (n := n) (u := u) (v := v) (i := Int.tmod k W) (j := Int.tdiv k W) fun k hk => (hv k hk).2
        refine evC_skip ?_
        refine then_normal ?_
        refine evC_seq ?_
        refine evC_block ?_
        refine evC_go (dec := []) (ks := [(0, 2), (0, 3), (0, 7), (0, 13), (0, 14), (0, 15), (1, 0), (1, 1), (1, 2), (1, 3), (1, 4), (2, 0), (2, 1), (2, 2), (2, 3), (2, 4)]) (ps := [W ≠ (0 : Int), W ≠ (0 : Int), IsU n (nU u)]) (s' := ⟨[(0, 2, Cont.cell (AV.bool false)), (0, 3, Cont.cell (AV.ptr 1 0)), (0, 7, Cont.cell (AV.ptr 2 0)), (0, 13, Cont.cell (AV.int IntKind.i64 (↑k : Int))), (0, 14, Cont.cell (AV.bool (openV W H A n (U (nU u)) 2 (Int.tmod (↑k : Int) W) (IntKind.i64.wrap (Int.tdiv (↑k : Int) W))))), (0, 15, Cont.cell (AV.int IntKind.i64 (openE W H A n 2 (Int.tmod (↑k : Int) W) (IntKind.i64.wrap (Int.tdiv (↑k : Int) W))))), (1, 0, Cont.cell (AV.int IntKind.i64 W)), (1, 1, Cont.cell (AV.int IntKind.i64 H)), (1, 2, Cont.cell (AV.int IntKind.i64 A)), (1, 3, Cont.cell (AV.rs 1 n false (nU u))), (1, 4, Cont.top), (2, 0, Cont.cell (AV.int IntKind.i64 W)), (2, 1, Cont.cell (AV.int IntKind.i64 H)), (2, 2, Cont.cell (AV.int IntKind.i64 A)), (2, 3, Cont.cell (AV.rs 1 n false (nU v))), (2, 4, Cont.top)], 179, 180⟩) (by kernel_rfl) (by kernel_rfl) ?_ ?_
        · exact ⟨hW0, hW0, i1c⟩
        rw [hjw, U_nU, o1]
        refine evC_go (dec := []) (ks := [(0, 2), (0, 3), (0, 7), (0, 13), (0, 14), (0, 15), (0, 16), (0, 17), (1, 0), (1, 1), (1, 2), (1, 3), (1, 4), (2, 0), (2, 1), (2, 2), (2, 3), (2, 4)]) (ps := [W ≠ (0 : Int), W ≠ (0 : Int), IsU n (nU v)]) (s' := ⟨[(0, 2, Cont.cell (AV.bool false)), (0, 3, Cont.cell (AV.ptr 1 0)), (0, 7, Cont.cell (AV.ptr 2 0)), (0, 13, Cont.cell (AV.int IntKind.i64 (↑k : Int))), (0, 14, Cont.cell (AV.bool (openV W H A n u 2 (Int.tmod (↑k : Int) W) (Int.tdiv (↑k : Int) W)))), (0, 15, Cont.cell (AV.int IntKind.i64 0)), (0, 16, Cont.cell (AV.bool (openV W H A n (U (nU v)) 2 (Int.tmod (↑k : Int) W) (IntKind.i64.wrap (Int.tdiv (↑k : Int) W))))), (0, 17, Cont.cell (AV.int IntKind.i64 (openE W H A n 2 (Int.tmod (↑k : Int) W) (IntKind.i64.wrap (Int.tdiv (↑k : Int) W))))), (1, 0, Cont.cell (AV.int IntKind.i64 W)), (1, 1, Cont.cell (AV.int IntKind.i64 H)), (1, 2, Cont.cell (AV.int IntKind.i64 A)), (1, 3, Cont.cell (AV.rs 1 n false (nU u))), (1, 4, Cont.top), (2, 0, Cont.cell (AV.int IntKind.i64 W)), (2, 1, Cont.cell (AV.int IntKind.i64 H)), (2, 2, Cont.cell (AV.int IntKind.i64 A)), (2, 3, Cont.cell (AV.rs 1 n false (nU v))), (2, 4, Cont.top)], 299, 180⟩) (by kernel_rfl) (by kernel_rfl) ?_ ?_
        · exact ⟨hW0, hW0, i2c⟩
        rw [hjw, U_nU, o1]
        refine evC_go (dec := []) (ks := [(0, 2), (0, 3), (0, 7), (0, 13), (0, 14), (0, 15), (0, 16), (0, 17), (0, 18), (0, 19), (1, 0), (1, 1), (1, 2), (1, 3), (1, 4), (2, 0), (2, 1), (2, 2), (2, 3), (2, 4)]) (ps := [W ≠ (0 : Int), W ≠ (0 : Int), IsU n (nU v)]) (s' := ⟨[(0, 2, Cont.cell (AV.bool false)), (0, 3, Cont.cell (AV.ptr 1 0)), (0, 7, Cont.cell (AV.ptr 2 0)), (0, 13, Cont.cell (AV.int IntKind.i64 (↑k : Int))), (0, 14, Cont.cell (AV.bool (openV W H A n u 2 (Int.tmod (↑k : Int) W) (Int.tdiv (↑k : Int) W)))), (0, 15, Cont.cell (AV.int IntKind.i64 0)), (0, 16, Cont.cell (AV.bool (openV W H A n v 2 (Int.tmod (↑k : Int) W) (Int.tdiv (↑k : Int) W)))), (0, 17, Cont.cell (AV.int IntKind.i64 0)), (0, 18, Cont.cell (AV.bool (openV W H A n (U (nU v)) 5 (Int.tmod (↑k : Int) W) (IntKind.i64.wrap (Int.tdiv (↑k : Int) W))))), (0, 19, Cont.cell (AV.int IntKind.i64 (openE W H A n 5 (Int.tmod (↑k : Int) W) (IntKind.i64.wrap (Int.tdiv (↑k : Int) W))))), (1, 0, Cont.cell (AV.int IntKind.i64 W)), (1, 1, Cont.cell (AV.int IntKind.i64 H)), (1, 2, Cont.cell (AV.int IntKind.i64 A)), (1, 3, Cont.cell (AV.rs 1 n false (nU u))), (1, 4, Cont.top), (2, 0, Cont.cell (AV.int IntKind.i64 W)), (2, 1, Cont.cell (AV.int IntKind.i64 H)), (2, 2, Cont.cell (AV.int IntKind.i64 A)), (2, 3, Cont.cell (AV.rs 1 n false (nU v))), (2, 4, Cont.top)], 419, 180⟩) (by kernel_rfl) (by kernel_rfl) ?_ ?_
        · exact ⟨hW0, hW0, i2c⟩
        rw [hjw, U_nU, o2, o3]
        refine evC_go0 (dec := []) (ks := [(0, 2), (0, 3), (0, 7), (0, 13), (0, 179), (1, 0), (1, 1), (1, 2), (1, 3), (1, 4), (2, 0), (2, 1), (2, 2), (2, 3), (2, 4)]) (s' := ⟨[(0, 2, Cont.cell (AV.bool false)), (0, 3, Cont.cell (AV.ptr 1 0)), (0, 7, Cont.cell (AV.ptr 2 0)), (0, 13, Cont.cell (AV.int IntKind.i64 (↑k : Int))), (0, 179, Cont.cell (AV.bool (bif bif bif bif 0 != 0 then true else 0 != 0 then true else 0 != 0 then true else bif openV W H A n u 2 (Int.tmod (↑k : Int) W) (Int.tdiv (↑k : Int) W) then !openV W H A n v 2 (Int.tmod (↑k : Int) W) (Int.tdiv (↑k : Int) W) else false then true else !true))), (1, 0, Cont.cell (AV.int IntKind.i64 W)), (1, 1, Cont.cell (AV.int IntKind.i64 H)), (1, 2, Cont.cell (AV.int IntKind.i64 A)), (1, 3, Cont.cell (AV.rs 1 n false (nU u))), (1, 4, Cont.top), (2, 0, Cont.cell (AV.int IntKind.i64 W)), (2, 1, Cont.cell (AV.int IntKind.i64 H)), (2, 2, Cont.cell (AV.int IntKind.i64 A)), (2, 3, Cont.cell (AV.rs 1 n false (nU v))), (2, 4, Cont.top)], 587, 180⟩) (by kernel_rfl) (by kernel_rfl) ?_
        refine evC_if (q := bif bif bif bif 0 != 0 then true else 0 != 0 then true else 0 != 0 then true else bif openV W H A n u 2 (Int.tmod (↑k : Int) W) (Int.tdiv (↑k : Int) W) then !openV W H A n v 2 (Int.tmod (↑k : Int) W) (Int.tdiv (↑k : Int) W) else false then true else !true) (by kernel_rfl) (fun hc => ?_) (fun hc => ?_)
        · cases hs : openV W H A n u 2 (Int.tmod k W) (Int.tdiv k W) with
          | false => rw [hs] at hc; simp at hc
          | true => rw [hs, o4 hs] at hc; simp at hc
        clear hc
        refine evC_skip ?_
        refine block_normal ?_
        refine then_normal ?_
        refine evC_goL0 (dec := []) (ks := [(0, 2), (0, 3), (0, 7), (0, 13), (1, 0), (1, 1), (1, 2), (1, 3), (1, 4), (2, 0), (2, 1), (2, 2), (2, 3), (2, 4)]) (s' := ⟨[(0, 2, Cont.cell (AV.bool false)), (0, 3, Cont.cell (AV.ptr 1 0)), (0, 7, Cont.cell (AV.ptr 2 0)), (0, 13, Cont.cell (AV.int IntKind.i64 (IntKind.i64.wrap ((↑k : Int) + 1)))), (1, 0, Cont.cell (AV.int IntKind.i64 W)), (1, 1, Cont.cell (AV.int IntKind.i64 H)), (1, 2, Cont.cell (AV.int IntKind.i64 A)), (1, 3, Cont.cell (AV.rs 1 n false (nU u))), (1, 4, Cont.top), (2, 0, Cont.cell (AV.int IntKind.i64 W)), (2, 1, Cont.cell (AV.int IntKind.i64 H)), (2, 2, Cont.cell (AV.int IntKind.i64 A)), (2, 3, Cont.cell (AV.rs 1 n false (nU v))), (2, 4, Cont.top)], 611, 180⟩) (by kernel_rfl) (by kernel_rfl) ?_
        refine round_normal (⟨k + 1, by omega⟩) (wk_go [1, 2] rfl (by decide) rfl rfl ⟨⟨_, rfl, rfl⟩, ⟨_, rfl, rfl⟩, ⟨_, rfl, rfl⟩, ⟨_, rfl, ?_⟩, ⟨_, rfl, rfl⟩, ⟨_, rfl, rfl⟩, ⟨_, rfl, rfl⟩, ⟨_, rfl, rfl⟩, ⟨_, rfl, trivial⟩, ⟨_, rfl, rfl⟩, ⟨_, rfl, rfl⟩, ⟨_, rfl, rfl⟩, ⟨_, rfl, rfl⟩, ⟨_, rfl, trivial⟩, trivial⟩) ?_
        · show AV.int .i64 _ = AV.int .i64 _
          rw [i64_in ((k : Int) + 1) (by omega)]
          rfl
        · show 5000 - (k + 1) < 5000 - k
          omega
      · clear hc
        refine evC_exit ?_
        refine then_exit ?_
        refine round_exit ?_
        refine block_exit ?_
        refine then_normal ?_
        refine evC_go0 (dec := []) (ks := [(0, 2)]) (s' := ⟨[(0, 2, Cont.cell (AV.bool true))], 67, 180⟩) (by kernel_rfl) (by kernel_rfl) ?_
        refine evC_ret ?_
        refine post_ret ?_
        refine ends_flat (vs := [AV.bool true]) (Nat.zero_lt_succ _) (by kernel_rfl) (flat_of _ (by kernel_rfl)) rfl ?_
        rfl
  · cases e
end Go.Eng.S27
