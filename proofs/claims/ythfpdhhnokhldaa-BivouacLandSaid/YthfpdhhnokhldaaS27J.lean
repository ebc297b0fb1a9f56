/- Seat top, land: what a hit leaves of a map, walked. -/
import Derived.Test.YthfpdhhnokhldaaEngX
import Derived.Test.YthfpdhhnokhldaaS27H
set_option linter.unusedSimpArgs false
set_option linter.unusedVariables false
namespace Go.Eng.S27
open Go.Proofs Go.IntWalk
set_option maxRecDepth 10000

theorem lowers_le (h : Hit) (i j : Int) : lowers h i j ≤ 16320 := by
  unfold lowers
  cases hc : (mayH h && nearB i && nearB j) with
  | false => show (0 : Int) ≤ 16320; omega
  | true =>
    simp only [Bool.and_eq_true] at hc
    obtain ⟨⟨hm, _⟩, _⟩ := hc
    obtain ⟨hr, hd, hi, hj⟩ := mayH_get hm
    have b1 := sq_bd (a := h.r) (m := 8) ⟨by omega, by omega⟩
    have b2 : 0 ≤ (i - h.i) * (i - h.i) := (sq_bd (m := if 0 ≤ i - h.i then i - h.i else -(i - h.i)) (by split <;> omega)).1
    have b3 : 0 ≤ (j - h.j) * (j - h.j) := (sq_bd (m := if 0 ≤ j - h.j then j - h.j else -(j - h.j)) (by split <;> omega)).1
    generalize h.r * h.r = R at *
    generalize (i - h.i) * (i - h.i) = X at *
    generalize (j - h.j) * (j - h.j) = Y at *
    have b4 : h.d * (R - X - Y) ≤ 16320 := by
      rcases Int.le_total 0 (R - X - Y) with h0 | h0
      · have := mul_le_of (a := h.d) (b := R - X - Y) (m := 255) (n := 64) hd ⟨h0, by omega⟩
        omega
      · have := Int.mul_nonneg hd.1 (by omega : 0 ≤ -(R - X - Y))
        rw [Int.mul_neg] at this
        omega
    have h0 : 0 ≤ mx2 0 (h.d * (R - X - Y)) ∧ mx2 0 (h.d * (R - X - Y)) ≤ 16320 := by unfold mx2; split <;> omega
    show (mx2 0 (h.d * (R - X - Y))).tdiv R ≤ 16320
    rw [Int.tdiv_eq_ediv_of_nonneg h0.1]
    exact Int.le_trans (Int.ediv_le_self _ h0.1) h0.2
def stE (W H A : Int) (n : Nat) (q : Nat → Hit) (k : Nat) : Int := bif chk W H A n != 0 then 1 else bif allH q k then 0 else 1
def sStrikes : Spec := fun args hr nb => match args with
  | [.agg [.int .i64 W, .int .i64 H, .int .i64 A, v], .fn 38 [.rp [.rs 4 k false q]]] => match sl 1 hr v with
    | some (n, f, rd) => some ⟨[IsU n f, q = nH (Hf q)],
      .tup [.agg [.int .i64 (bif stE W H A n (Hf q) k != 0 then 0 else W), .int .i64 (bif stE W H A n (Hf q) k != 0 then 0 else H), .int .i64 (bif stE W H A n (Hf q) k != 0 then 0 else A), .vs nb], .int .i64 (stE W H A n (Hf q) k)], rd,
      [(nb, 0, .vec 1 5 (bif stE W H A n (Hf q) k != 0 then 0 else n) (nU (stN W (Hf q) (U f) k)))]⟩
    | none => none
  | _ => none
theorem strikes_ok : SpecOK Try.prog 20 sStrikes := by
  refine spec_own (by kernel_rfl) T_ok (sget_cons check_ok (sget_cons may_ok (sget_cons lowers_ok sget_nil))) Try.func20 rfl rfl fun args hr nb out e => ?_
  unfold sStrikes at e
  split at e
  · rename_i W H A v k q
    split at e
    · rename_i n f rd hs1
      injection e with e; subst e
      refine ⟨fun x hx => sl_rd hs1 x hx, false, [mp4 W H A n (U f), seqV k (Hf q)], rfl, fun hs => ?_⟩
      have h1 := hs _ List.mem_cons_self
      have h2 := hs _ (List.mem_cons_of_mem _ List.mem_cons_self)
      refine ⟨map_pass hs1 (fun y hy => ⟨hy, by simp⟩) h1 (.cons _ _ _ _ (by rw [h2]; exact .same _ _ (seqV_has k _)) .nil), ?_⟩
      have hu : ∀ i, i < n → 0 ≤ U f i ∧ U f i ≤ 255 := fun i hi => (h1.get i hi).2
      clear hs h1 h2
      generalize U f = u at hu ⊢
      generalize Hf q = q
      have i1 : IsU n (nU u) := isU hu
      unfold mp4 seqV
      refine evC_go0 (dec := []) (ks := [(0, 1), (0, 2), (0, 4), (0, 5), (1, 0), (1, 1), (1, 2), (1, 3), (1, 4), (9, 0), (9, 1), (9, 2), (9, 3), (9, 4), (17, 0), (17, 1)]) (s' := ⟨[(0, 1, Cont.cell (AV.fn 38 [AV.rp [AV.rs 4 k false (nH q)]])), (0, 2, Cont.cell (AV.ptr 1 0)), (0, 4, Cont.cell (AV.ptr 9 0)), (0, 5, Cont.cell (AV.ptr 17 0)), (1, 0, Cont.cell (AV.int IntKind.i64 W)), (1, 1, Cont.cell (AV.int IntKind.i64 H)), (1, 2, Cont.cell (AV.int IntKind.i64 A)), (1, 3, Cont.cell (AV.rs 1 n false (nU u))), (1, 4, Cont.top), (9, 0, Cont.cell (AV.int IntKind.i64 0)), (9, 1, Cont.cell (AV.int IntKind.i64 0)), (9, 2, Cont.cell (AV.int IntKind.i64 0)), (9, 3, Cont.cell AV.nils), (9, 4, Cont.top), (17, 0, Cont.cell (AV.int IntKind.i64 0)), (17, 1, Cont.top)], 25, 90⟩) (by kernel_rfl) (by kernel_rfl) ?_
      refine evC_seq ?_
      refine evC_go (dec := []) (ks := [(0, 1), (0, 2), (0, 4), (0, 5), (0, 13), (1, 0), (1, 1), (1, 2), (1, 3), (1, 4), (9, 0), (9, 1), (9, 2), (9, 3), (9, 4), (17, 0), (17, 1)]) (ps := [IsU n (nU u)]) (s' := ⟨[(0, 1, Cont.cell (AV.fn 38 [AV.rp [AV.rs 4 k false (nH q)]])), (0, 2, Cont.cell (AV.ptr 1 0)), (0, 4, Cont.cell (AV.ptr 9 0)), (0, 5, Cont.cell (AV.ptr 17 0)), (0, 13, Cont.cell (AV.bool (chk W H A n != 0))), (1, 0, Cont.cell (AV.int IntKind.i64 W)), (1, 1, Cont.cell (AV.int IntKind.i64 H)), (1, 2, Cont.cell (AV.int IntKind.i64 A)), (1, 3, Cont.cell (AV.rs 1 n false (nU u))), (1, 4, Cont.top), (9, 0, Cont.cell (AV.int IntKind.i64 0)), (9, 1, Cont.cell (AV.int IntKind.i64 0)), (9, 2, Cont.cell (AV.int IntKind.i64 0)), (9, 3, Cont.cell AV.nils), (9, 4, Cont.top), (17, 0, Cont.cell (AV.int IntKind.i64 0)), (17, 1, Cont.top)], 49, 90⟩) (by kernel_rfl) (by kernel_rfl) ?_ ?_
      · exact i1
      refine evC_if (q := chk W H A n != 0) (by kernel_rfl) (fun hc => ?_) (fun hc => ?_)
      · have hE : stE W H A n q k = 1 := by unfold stE; rw [hc]; rfl
        rw [hE]
        refine evC_go0 (dec := []) (ks := [(0, 1), (0, 2), (0, 4), (0, 5), (1, 0), (1, 1), (1, 2), (1, 3), (1, 4), (9, 0), (9, 1), (9, 2), (9, 3), (9, 4), (17, 0), (17, 1)]) (s' := ⟨[(0, 1, Cont.cell (AV.fn 38 [AV.rp [AV.rs 4 k false (nH q)]])), (0, 2, Cont.cell (AV.ptr 1 0)), (0, 4, Cont.cell (AV.ptr 9 0)), (0, 5, Cont.cell (AV.ptr 17 0)), (1, 0, Cont.cell (AV.int IntKind.i64 W)), (1, 1, Cont.cell (AV.int IntKind.i64 H)), (1, 2, Cont.cell (AV.int IntKind.i64 A)), (1, 3, Cont.cell (AV.rs 1 n false (nU u))), (1, 4, Cont.top), (9, 0, Cont.cell (AV.int IntKind.i64 0)), (9, 1, Cont.cell (AV.int IntKind.i64 0)), (9, 2, Cont.cell (AV.int IntKind.i64 0)), (9, 3, Cont.cell AV.nils), (9, 4, Cont.top), (17, 0, Cont.cell (AV.int IntKind.i64 1)), (17, 1, Cont.top)], 73, 90⟩) (by kernel_rfl) (by kernel_rfl) ?_
        refine evC_wk _ (.nil 9 3 1 5 (fun _ => .nils) (Nat.le_of_ble_eq_true rfl) rfl) ?_
        refine evC_ret ?_
        refine then_ret ?_
        refine post_ret ?_
        refine ends_go [73] (AV.tup [AV.agg [AV.int IntKind.i64 0, AV.int IntKind.i64 0, AV.int IntKind.i64 0, AV.vs 1], AV.int IntKind.i64 1]) [(1, 0, Cont.vec 1 5 0 fun x => AV.nils)] rfl (by decide) rfl rfl (has_of _ rfl) rfl ⟨⟨_, rfl, ⟨rfl, rfl, rfl, fun _ _ => rfl⟩⟩, trivial⟩ ⟨fun _ => ⟨1, _, rfl, rfl, rfl, ⟨rfl, rfl, rfl, fun _ hi => absurd hi (Nat.not_lt_zero _)⟩⟩, trivial⟩ (kept_nil _)
      · have h0 : chk W H A n = 0 := by simpa using hc
        obtain ⟨g1, g2⟩ := chk_get h0
        obtain ⟨r1, r2, r3, r4, r5⟩ := rightD_get g1
        refine evC_skip ?_
        refine then_normal ?_
        refine evC_go (dec := []) (ks := [(0, 1), (0, 2), (0, 4), (0, 5), (0, 6), (1, 0), (1, 1), (1, 2), (1, 3), (1, 4), (9, 0), (9, 1), (9, 2), (9, 3), (9, 4), (17, 0), (17, 1), (73, 0), (81, 0), (81, 1)]) (ps := [(0 : Int) ≤ (↑n : Int), (↑n : Int) = (↑n : Int), (↑(1 : Nat) : Int) * (↑n : Int) ≤ (281474976710656 : Int), (↑n : Int) ≤ (9223372036854775807 : Int)]) (s' := ⟨[(0, 1, Cont.cell (AV.fn 38 [AV.rp [AV.rs 4 k false (nH q)]])), (0, 2, Cont.cell (AV.ptr 1 0)), (0, 4, Cont.cell (AV.ptr 9 0)), (0, 5, Cont.cell (AV.ptr 17 0)), (0, 6, Cont.cell (AV.ptr 81 0)), (1, 0, Cont.cell (AV.int IntKind.i64 W)), (1, 1, Cont.cell (AV.int IntKind.i64 H)), (1, 2, Cont.cell (AV.int IntKind.i64 A)), (1, 3, Cont.cell (AV.rs 1 n false (nU u))), (1, 4, Cont.top), (9, 0, Cont.cell (AV.int IntKind.i64 0)), (9, 1, Cont.cell (AV.int IntKind.i64 0)), (9, 2, Cont.cell (AV.int IntKind.i64 0)), (9, 3, Cont.cell AV.nils), (9, 4, Cont.top), (17, 0, Cont.cell (AV.int IntKind.i64 0)), (17, 1, Cont.top), (73, 0, Cont.vec 1 5 n fun x => AV.int IntKind.u8 0), (81, 0, Cont.cell (AV.vs 73)), (81, 1, Cont.top)], 97, 90⟩) (by kernel_rfl) (by kernel_rfl) ?_ ?_
        · (simp only [All]; (repeat' apply And.intro) <;> (try intro _) <;> (try intro _) <;> (repeat' apply And.intro) <;> (try intro _) <;> (try intro _) <;> first | trivial | assumption | exact .inr trivial | exact .inr rfl | omega | rfl | exact ⟨_, rfl, rfl⟩ | exact ⟨rfl, rfl⟩ | exact ⟨fun _ => rfl, fun _ => rfl⟩ | (unfold maxLen; omega) | (unfold i64R; first | omega | decide) | decide)
        refine evC_go (dec := []) (ks := [(0, 1), (0, 2), (0, 4), (0, 5), (0, 6), (1, 0), (1, 1), (1, 2), (1, 3), (1, 4), (9, 0), (9, 1), (9, 2), (9, 3), (9, 4), (17, 0), (17, 1), (73, 0), (81, 0), (81, 1)]) (ps := [(1 : Nat) = (1 : Nat), (1 : Nat) = (1 : Nat), n = n, n = (0 : Nat) ∨ (1 : Nat) = (1 : Nat)]) (s' := ⟨[(0, 1, Cont.cell (AV.fn 38 [AV.rp [AV.rs 4 k false (nH q)]])), (0, 2, Cont.cell (AV.ptr 1 0)), (0, 4, Cont.cell (AV.ptr 9 0)), (0, 5, Cont.cell (AV.ptr 17 0)), (0, 6, Cont.cell (AV.ptr 81 0)), (1, 0, Cont.cell (AV.int IntKind.i64 W)), (1, 1, Cont.cell (AV.int IntKind.i64 H)), (1, 2, Cont.cell (AV.int IntKind.i64 A)), (1, 3, Cont.cell (AV.rs 1 n false (nU u))), (1, 4, Cont.top), (9, 0, Cont.cell (AV.int IntKind.i64 0)), (9, 1, Cont.cell (AV.int IntKind.i64 0)), (9, 2, Cont.cell (AV.int IntKind.i64 0)), (9, 3, Cont.cell AV.nils), (9, 4, Cont.top), (17, 0, Cont.cell (AV.int IntKind.i64 0)), (17, 1, Cont.top), (73, 0, Cont.vec 1 5 n (nU u)), (81, 0, Cont.cell (AV.vs 73)), (81, 1, Cont.top)], 129, 90⟩) (by kernel_rfl) (by kernel_rfl) ?_ ?_
        · exact ⟨rfl, rfl, rfl, .inr rfl⟩
        refine evC_go0 (dec := []) (ks := [(0, 1), (0, 2), (0, 4), (0, 5), (0, 6), (1, 0), (1, 1), (1, 2), (1, 3), (1, 4), (9, 0), (9, 1), (9, 2), (9, 3), (9, 4), (17, 0), (17, 1), (73, 0), (81, 0), (81, 1)]) (s' := ⟨[(0, 1, Cont.cell (AV.fn 38 [AV.rp [AV.rs 4 k false (nH q)]])), (0, 2, Cont.cell (AV.ptr 1 0)), (0, 4, Cont.cell (AV.ptr 9 0)), (0, 5, Cont.cell (AV.ptr 17 0)), (0, 6, Cont.cell (AV.ptr 81 0)), (1, 0, Cont.cell (AV.int IntKind.i64 W)), (1, 1, Cont.cell (AV.int IntKind.i64 H)), (1, 2, Cont.cell (AV.int IntKind.i64 A)), (1, 3, Cont.cell (AV.vs 73)), (1, 4, Cont.top), (9, 0, Cont.cell (AV.int IntKind.i64 0)), (9, 1, Cont.cell (AV.int IntKind.i64 0)), (9, 2, Cont.cell (AV.int IntKind.i64 0)), (9, 3, Cont.cell AV.nils), (9, 4, Cont.top), (17, 0, Cont.cell (AV.int IntKind.i64 0)), (17, 1, Cont.top), (73, 0, Cont.vec 1 5 n (nU u)), (81, 0, Cont.cell (AV.vs 73)), (81, 1, Cont.top)], 153, 90⟩) (by kernel_rfl) (by kernel_rfl) ?_
        refine evC_seq ?_
        refine evC_go0 (dec := []) (ks := [(0, 2), (0, 4), (0, 5), (0, 6), (0, 25), (1, 0), (1, 1), (1, 2), (1, 3), (1, 4), (9, 0), (9, 1), (9, 2), (9, 3), (9, 4), (17, 0), (17, 1), (73, 0), (81, 0), (81, 1)]) (s' := ⟨[(0, 2, Cont.cell (AV.ptr 1 0)), (0, 4, Cont.cell (AV.ptr 9 0)), (0, 5, Cont.cell (AV.ptr 17 0)), (0, 6, Cont.cell (AV.ptr 81 0)), (0, 25, Cont.cell (AV.fn 38 [AV.rp [AV.rs 4 k false (nH q)]])), (1, 0, Cont.cell (AV.int IntKind.i64 W)), (1, 1, Cont.cell (AV.int IntKind.i64 H)), (1, 2, Cont.cell (AV.int IntKind.i64 A)), (1, 3, Cont.cell (AV.vs 73)), (1, 4, Cont.top), (9, 0, Cont.cell (AV.int IntKind.i64 0)), (9, 1, Cont.cell (AV.int IntKind.i64 0)), (9, 2, Cont.cell (AV.int IntKind.i64 0)), (9, 3, Cont.cell AV.nils), (9, 4, Cont.top), (17, 0, Cont.cell (AV.int IntKind.i64 0)), (17, 1, Cont.top), (73, 0, Cont.vec 1 5 n (nU u)), (81, 0, Cont.cell (AV.vs 73)), (81, 1, Cont.top)], 161, 90⟩) (by kernel_rfl) (by kernel_rfl) ?_
        refine evC_range (hs := [(0, 2, Cont.cell (AV.ptr 1 0)), (0, 4, Cont.cell (AV.ptr 2 0)), (0, 5, Cont.cell (AV.ptr 3 0)), (0, 6, Cont.cell (AV.ptr 4 0)), (0, 25, Cont.cell (AV.fn 38 [AV.rp [AV.rs 4 k false (nH q)]]))]) (nx := 6) (N := 90) 63 (fun j => PLift (allH q j = true)) (fun j x => [(1, 0, Cont.cell (AV.int IntKind.i64 W)), (1, 1, Cont.cell (AV.int IntKind.i64 H)), (1, 2, Cont.cell (AV.int IntKind.i64 A)), (1, 3, Cont.cell (AV.vs 5)), (1, 4, Cont.top), (2, 0, Cont.cell (AV.int IntKind.i64 0)), (2, 1, Cont.cell (AV.int IntKind.i64 0)), (2, 2, Cont.cell (AV.int IntKind.i64 0)), (2, 3, Cont.cell AV.nils), (2, 4, Cont.top), (3, 0, Cont.cell (AV.int IntKind.i64 0)), (3, 1, Cont.top), (4, 0, Cont.cell (AV.vs 5)), (4, 1, Cont.top), (5, 0, .vec 1 5 n (nU (stN W q u j)))]) (⟨rfl⟩) rfl rfl rfl rfl (fun _ _ => rfl) (wk_go [1, 9, 17, 81, 73] rfl (by decide) rfl rfl ⟨⟨_, rfl, rfl⟩, ⟨_, rfl, rfl⟩, ⟨_, rfl, rfl⟩, ⟨_, rfl, rfl⟩, ⟨_, rfl, rfl⟩, ⟨_, rfl, rfl⟩, ⟨_, rfl, rfl⟩, ⟨_, rfl, rfl⟩, ⟨_, rfl, rfl⟩, ⟨_, rfl, trivial⟩, ⟨_, rfl, rfl⟩, ⟨_, rfl, rfl⟩, ⟨_, rfl, rfl⟩, ⟨_, rfl, rfl⟩, ⟨_, rfl, trivial⟩, ⟨_, rfl, rfl⟩, ⟨_, rfl, trivial⟩, ⟨_, rfl, rfl⟩, ⟨_, rfl, trivial⟩, ⟨_, rfl, ⟨rfl, rfl, rfl, fun _ _ => rfl⟩⟩, trivial⟩) rfl rfl ?_ ?_ ?_
        · intro j hj
          exact ⟨[(q j).i, (q j).j, (q j).r, (q j).d], rfl⟩
        · rintro j ⟨ha⟩ hj
          refine evC_goL0 (dec := []) (ks := [(0, 2), (0, 4), (0, 5), (0, 6), (0, 7), (1, 0), (1, 1), (1, 2), (1, 3), (1, 4), (2, 0), (2, 1), (2, 2), (2, 3), (2, 4), (3, 0), (3, 1), (4, 0), (4, 1), (5, 0), (6, 0), (6, 1), (6, 2), (6, 3), (6, 4)]) (s' := ⟨[(0, 2, Cont.cell (AV.ptr 1 0)), (0, 4, Cont.cell (AV.ptr 2 0)), (0, 5, Cont.cell (AV.ptr 3 0)), (0, 6, Cont.cell (AV.ptr 4 0)), (0, 7, Cont.cell (AV.ptr 6 0)), (1, 0, Cont.cell (AV.int IntKind.i64 W)), (1, 1, Cont.cell (AV.int IntKind.i64 H)), (1, 2, Cont.cell (AV.int IntKind.i64 A)), (1, 3, Cont.cell (AV.vs 5)), (1, 4, Cont.top), (2, 0, Cont.cell (AV.int IntKind.i64 0)), (2, 1, Cont.cell (AV.int IntKind.i64 0)), (2, 2, Cont.cell (AV.int IntKind.i64 0)), (2, 3, Cont.cell AV.nils), (2, 4, Cont.top), (3, 0, Cont.cell (AV.int IntKind.i64 0)), (3, 1, Cont.top), (4, 0, Cont.cell (AV.vs 5)), (4, 1, Cont.top), (5, 0, Cont.vec 1 5 n (nU (stN W q u j))), (6, 0, Cont.cell (AV.int IntKind.i64 (Hit.i (q j)))), (6, 1, Cont.cell (AV.int IntKind.i64 (Hit.j (q j)))), (6, 2, Cont.cell (AV.int IntKind.i64 (Hit.r (q j)))), (6, 3, Cont.cell (AV.int IntKind.i64 (Hit.d (q j)))), (6, 4, Cont.top)], 22, 90⟩) (by kernel_rfl) (by kernel_rfl) ?_
          refine rthen_normal ?_
          refine evC_block ?_
          refine evC_seq ?_
          refine evC_go0 (dec := []) (ks := [(0, 2), (0, 4), (0, 5), (0, 6), (0, 7), (0, 29), (1, 0), (1, 1), (1, 2), (1, 3), (1, 4), (2, 0), (2, 1), (2, 2), (2, 3), (2, 4), (3, 0), (3, 1), (4, 0), (4, 1), (5, 0), (6, 0), (6, 1), (6, 2), (6, 3), (6, 4)]) (s' := ⟨[(0, 2, Cont.cell (AV.ptr 1 0)), (0, 4, Cont.cell (AV.ptr 2 0)), (0, 5, Cont.cell (AV.ptr 3 0)), (0, 6, Cont.cell (AV.ptr 4 0)), (0, 7, Cont.cell (AV.ptr 6 0)), (0, 29, Cont.cell (AV.bool !mayH { i := Hit.i (q j), j := Hit.j (q j), r := Hit.r (q j), d := Hit.d (q j) })), (1, 0, Cont.cell (AV.int IntKind.i64 W)), (1, 1, Cont.cell (AV.int IntKind.i64 H)), (1, 2, Cont.cell (AV.int IntKind.i64 A)), (1, 3, Cont.cell (AV.vs 5)), (1, 4, Cont.top), (2, 0, Cont.cell (AV.int IntKind.i64 0)), (2, 1, Cont.cell (AV.int IntKind.i64 0)), (2, 2, Cont.cell (AV.int IntKind.i64 0)), (2, 3, Cont.cell AV.nils), (2, 4, Cont.top), (3, 0, Cont.cell (AV.int IntKind.i64 0)), (3, 1, Cont.top), (4, 0, Cont.cell (AV.vs 5)), (4, 1, Cont.top), (5, 0, Cont.vec 1 5 n (nU (stN W q u j))), (6, 0, Cont.cell (AV.int IntKind.i64 (Hit.i (q j)))), (6, 1, Cont.cell (AV.int IntKind.i64 (Hit.j (q j)))), (6, 2, Cont.cell (AV.int IntKind.i64 (Hit.r (q j)))), (6, 3, Cont.cell (AV.int IntKind.i64 (Hit.d (q j)))), (6, 4, Cont.top)], 46, 90⟩) (by kernel_rfl) (by kernel_rfl) ?_
          refine evC_if (q := !mayH (q j)) (by kernel_rfl) (fun hc => ?_) (fun hc => ?_)
          · have hm : mayH (q j) = false := by simpa using hc
            have hE : stE W H A n q k = 1 := by unfold stE; rw [h0, allH_not hj hm]; rfl
            refine evC_go0 (dec := []) (ks := [(0, 2), (0, 6), (0, 7), (1, 0), (1, 1), (1, 2), (1, 3), (1, 4), (2, 0), (2, 1), (2, 2), (2, 3), (2, 4), (3, 0), (3, 1), (4, 0), (4, 1), (5, 0), (6, 0), (6, 1), (6, 2), (6, 3), (6, 4)]) (s' := ⟨[(0, 2, Cont.cell (AV.ptr 1 0)), (0, 6, Cont.cell (AV.ptr 4 0)), (0, 7, Cont.cell (AV.ptr 6 0)), (1, 0, Cont.cell (AV.int IntKind.i64 W)), (1, 1, Cont.cell (AV.int IntKind.i64 H)), (1, 2, Cont.cell (AV.int IntKind.i64 A)), (1, 3, Cont.cell (AV.vs 5)), (1, 4, Cont.top), (2, 0, Cont.cell (AV.int IntKind.i64 0)), (2, 1, Cont.cell (AV.int IntKind.i64 0)), (2, 2, Cont.cell (AV.int IntKind.i64 0)), (2, 3, Cont.cell AV.nils), (2, 4, Cont.top), (3, 0, Cont.cell (AV.int IntKind.i64 1)), (3, 1, Cont.top), (4, 0, Cont.cell (AV.vs 5)), (4, 1, Cont.top), (5, 0, Cont.vec 1 5 n (nU (stN W q u j))), (6, 0, Cont.cell (AV.int IntKind.i64 (Hit.i (q j)))), (6, 1, Cont.cell (AV.int IntKind.i64 (Hit.j (q j)))), (6, 2, Cont.cell (AV.int IntKind.i64 (Hit.r (q j)))), (6, 3, Cont.cell (AV.int IntKind.i64 (Hit.d (q j)))), (6, 4, Cont.top)], 70, 90⟩) (by kernel_rfl) (by kernel_rfl) ?_
            refine evC_ret ?_
            refine then_ret ?_
            refine block_ret ?_
            refine rpost_ret [(1, 0, Cont.cell (AV.int IntKind.i64 W)), (1, 1, Cont.cell (AV.int IntKind.i64 H)), (1, 2, Cont.cell (AV.int IntKind.i64 A)), (1, 3, Cont.cell (AV.vs 5)), (1, 4, Cont.top), (2, 0, Cont.cell (AV.int IntKind.i64 0)), (2, 1, Cont.cell (AV.int IntKind.i64 0)), (2, 2, Cont.cell (AV.int IntKind.i64 0)), (2, 3, Cont.cell AV.nils), (2, 4, Cont.top), (3, 0, Cont.cell (AV.int IntKind.i64 1)), (3, 1, Cont.top), (4, 0, Cont.cell (AV.vs 5)), (4, 1, Cont.top), (5, 0, Cont.vec 1 5 n (nU (stN W q u j)))] [(0, 2, Cont.cell (AV.ptr 1 0)), (0, 4, Cont.cell (AV.ptr 2 0)), (0, 5, Cont.cell (AV.ptr 3 0)), (0, 6, Cont.cell (AV.ptr 4 0)), (0, 25, Cont.cell (AV.fn 38 [AV.rp [AV.rs 4 k false (nH q)]])), (1, 0, Cont.cell (AV.int IntKind.i64 W)), (1, 1, Cont.cell (AV.int IntKind.i64 H)), (1, 2, Cont.cell (AV.int IntKind.i64 A)), (1, 3, Cont.cell (AV.vs 5)), (1, 4, Cont.top), (2, 0, Cont.cell (AV.int IntKind.i64 0)), (2, 1, Cont.cell (AV.int IntKind.i64 0)), (2, 2, Cont.cell (AV.int IntKind.i64 0)), (2, 3, Cont.cell AV.nils), (2, 4, Cont.top), (3, 0, Cont.cell (AV.int IntKind.i64 1)), (3, 1, Cont.top), (4, 0, Cont.cell (AV.vs 5)), (4, 1, Cont.top), (5, 0, Cont.vec 1 5 n (nU (stN W q u j)))] rfl (wk_go [] rfl (by decide) rfl rfl ⟨⟨_, rfl, rfl⟩, ⟨_, rfl, rfl⟩, ⟨_, rfl, rfl⟩, ⟨_, rfl, rfl⟩, ⟨_, rfl, trivial⟩, ⟨_, rfl, rfl⟩, ⟨_, rfl, rfl⟩, ⟨_, rfl, rfl⟩, ⟨_, rfl, rfl⟩, ⟨_, rfl, trivial⟩, ⟨_, rfl, rfl⟩, ⟨_, rfl, trivial⟩, ⟨_, rfl, rfl⟩, ⟨_, rfl, trivial⟩, ⟨_, rfl, rfl, rfl, rfl, fun _ _ => rfl⟩, trivial⟩) rfl ?_
            rw [hE]
            dsimp only
            refine then_ret ?_
            refine post_ret ?_
            refine ends_wk (.nil 2 3 1 5 (fun _ => .nils) (Nat.le_of_ble_eq_true rfl) rfl) ?_
            refine ends_go [6] (AV.tup [AV.agg [AV.int IntKind.i64 0, AV.int IntKind.i64 0, AV.int IntKind.i64 0, AV.vs 1], AV.int IntKind.i64 1]) [(1, 0, Cont.vec 1 5 0 fun x => AV.nils)] rfl (by decide) rfl rfl (has_of _ rfl) rfl ⟨⟨_, rfl, ⟨rfl, rfl, rfl, fun _ _ => rfl⟩⟩, trivial⟩ ⟨fun _ => ⟨1, _, rfl, rfl, rfl, ⟨rfl, rfl, rfl, fun _ hi => absurd hi (Nat.not_lt_zero _)⟩⟩, trivial⟩ (kept_nil _)
          · have hm : mayH (q j) = true := by simpa using hc
            obtain ⟨m1, m2, m3, m4⟩ := mayH_get hm
            generalize hst : stN W q u j = v
            have hv : ∀ i, i < n → 0 ≤ v i ∧ v i ≤ 255 := fun i hi => by rw [← hst]; have := stN_rng (W := W) (q := q) (hu i hi).1 j; have := hu i hi; omega
            have hst1 : stN W q u (j + 1) = st1 W (q j) v := by rw [← hst]; rfl
            refine evC_skip ?_
            refine then_normal ?_
            refine evC_go0 (dec := []) (ks := [(0, 2), (0, 6), (0, 7), (0, 8), (1, 0), (1, 1), (1, 2), (1, 3), (1, 4), (2, 0), (2, 1), (2, 2), (2, 3), (2, 4), (3, 0), (3, 1), (4, 0), (4, 1), (5, 0), (6, 0), (6, 1), (6, 2), (6, 3), (6, 4)]) (s' := ⟨[(0, 2, Cont.cell (AV.ptr 1 0)), (0, 6, Cont.cell (AV.ptr 4 0)), (0, 7, Cont.cell (AV.ptr 6 0)), (0, 8, Cont.cell (AV.int IntKind.i64 (mx2 0 (IntKind.i64.wrap (Hit.j (q j) - Hit.r (q j)))))), (1, 0, Cont.cell (AV.int IntKind.i64 W)), (1, 1, Cont.cell (AV.int IntKind.i64 H)), (1, 2, Cont.cell (AV.int IntKind.i64 A)), (1, 3, Cont.cell (AV.vs 5)), (1, 4, Cont.top), (2, 0, Cont.cell (AV.int IntKind.i64 0)), (2, 1, Cont.cell (AV.int IntKind.i64 0)), (2, 2, Cont.cell (AV.int IntKind.i64 0)), (2, 3, Cont.cell AV.nils), (2, 4, Cont.top), (3, 0, Cont.cell (AV.int IntKind.i64 0)), (3, 1, Cont.top), (4, 0, Cont.cell (AV.vs 5)), (4, 1, Cont.top), (5, 0, Cont.vec 1 5 n (nU v)), (6, 0, Cont.cell (AV.int IntKind.i64 (Hit.i (q j)))), (6, 1, Cont.cell (AV.int IntKind.i64 (Hit.j (q j)))), (6, 2, Cont.cell (AV.int IntKind.i64 (Hit.r (q j)))), (6, 3, Cont.cell (AV.int IntKind.i64 (Hit.d (q j)))), (6, 4, Cont.top)], 102, 90⟩) (by kernel_rfl) (by kernel_rfl) ?_
            rw [i64_in _ (by omega)]
            have p1 : ∀ k, nU (stP W (q j) v (mx2 0 ((q j).j - (q j).r)) (mx2 0 ((q j).i - (q j).r))) k = nU v k := fun k => congrArg (AV.int .u8) (stP_start (by omega) k)
            refine evC_block ?_
            refine evC_loop (ι := { y : Int // mx2 0 ((q j).j - (q j).r) ≤ y ∧ y ≤ 200 }) (fun y => ⟨[(0, 2, Cont.cell (AV.ptr 1 0)), (0, 6, Cont.cell (AV.ptr 4 0)), (0, 7, Cont.cell (AV.ptr 6 0)), (0, 8, .cell (.int .i64 y.1)), (1, 0, Cont.cell (AV.int IntKind.i64 W)), (1, 1, Cont.cell (AV.int IntKind.i64 H)), (1, 2, Cont.cell (AV.int IntKind.i64 A)), (1, 3, Cont.cell (AV.vs 5)), (1, 4, Cont.top), (2, 0, Cont.cell (AV.int IntKind.i64 0)), (2, 1, Cont.cell (AV.int IntKind.i64 0)), (2, 2, Cont.cell (AV.int IntKind.i64 0)), (2, 3, Cont.cell AV.nils), (2, 4, Cont.top), (3, 0, Cont.cell (AV.int IntKind.i64 0)), (3, 1, Cont.top), (4, 0, Cont.cell (AV.vs 5)), (4, 1, Cont.top), (5, 0, .vec 1 5 n (nU (stP W (q j) v y.1 (mx2 0 ((q j).i - (q j).r))))), (6, 0, Cont.cell (AV.int IntKind.i64 (Hit.i (q j)))), (6, 1, Cont.cell (AV.int IntKind.i64 (Hit.j (q j)))), (6, 2, Cont.cell (AV.int IntKind.i64 (Hit.r (q j)))), (6, 3, Cont.cell (AV.int IntKind.i64 (Hit.d (q j)))), (6, 4, Cont.top)], 7, 90⟩) (fun y => (300 - y.1).toNat) ⟨mx2 0 ((q j).j - (q j).r), Int.le_refl _, by unfold mx2; split <;> omega⟩ (wk_go [6] rfl (by decide) rfl rfl ⟨⟨_, rfl, rfl⟩, ⟨_, rfl, rfl⟩, ⟨_, rfl, rfl⟩, ⟨_, rfl, rfl⟩, ⟨_, rfl, rfl⟩, ⟨_, rfl, rfl⟩, ⟨_, rfl, rfl⟩, ⟨_, rfl, rfl⟩, ⟨_, rfl, trivial⟩, ⟨_, rfl, rfl⟩, ⟨_, rfl, rfl⟩, ⟨_, rfl, rfl⟩, ⟨_, rfl, rfl⟩, ⟨_, rfl, trivial⟩, ⟨_, rfl, rfl⟩, ⟨_, rfl, trivial⟩, ⟨_, rfl, rfl⟩, ⟨_, rfl, trivial⟩, ⟨_, rfl, ?_⟩, ⟨_, rfl, rfl⟩, ⟨_, rfl, rfl⟩, ⟨_, rfl, rfl⟩, ⟨_, rfl, rfl⟩, ⟨_, rfl, trivial⟩, trivial⟩) ?_
            · exact ⟨rfl, rfl, rfl, fun i _ => (p1 i).symm⟩
            rintro ⟨y, y1, y2⟩
            have y0 : 0 ≤ y := Int.le_trans (by unfold mx2; split <;> omega) y1
            refine evC_seq ?_
            refine evC_go0 (dec := []) (ks := [(0, 2), (0, 6), (0, 7), (0, 8), (0, 46), (1, 0), (1, 1), (1, 2), (1, 3), (1, 4), (2, 0), (2, 1), (2, 2), (2, 3), (2, 4), (3, 0), (3, 1), (4, 0), (4, 1), (5, 0), (6, 0), (6, 1), (6, 2), (6, 3), (6, 4)]) (s' := ⟨[(0, 2, Cont.cell (AV.ptr 1 0)), (0, 6, Cont.cell (AV.ptr 4 0)), (0, 7, Cont.cell (AV.ptr 6 0)), (0, 8, Cont.cell (AV.int IntKind.i64 y)), (0, 46, Cont.cell (AV.bool (decide (y ≤ mn2 H (IntKind.i64.wrap (Hit.j (q j) + Hit.r (q j))))))), (1, 0, Cont.cell (AV.int IntKind.i64 W)), (1, 1, Cont.cell (AV.int IntKind.i64 H)), (1, 2, Cont.cell (AV.int IntKind.i64 A)), (1, 3, Cont.cell (AV.vs 5)), (1, 4, Cont.top), (2, 0, Cont.cell (AV.int IntKind.i64 0)), (2, 1, Cont.cell (AV.int IntKind.i64 0)), (2, 2, Cont.cell (AV.int IntKind.i64 0)), (2, 3, Cont.cell AV.nils), (2, 4, Cont.top), (3, 0, Cont.cell (AV.int IntKind.i64 0)), (3, 1, Cont.top), (4, 0, Cont.cell (AV.vs 5)), (4, 1, Cont.top), (5, 0, Cont.vec 1 5 n (nU (stP W (q j) v y (mx2 0 (Hit.i (q j) - Hit.r (q j)))))), (6, 0, Cont.cell (AV.int IntKind.i64 (Hit.i (q j)))), (6, 1, Cont.cell (AV.int IntKind.i64 (Hit.j (q j)))), (6, 2, Cont.cell (AV.int IntKind.i64 (Hit.r (q j)))), (6, 3, Cont.cell (AV.int IntKind.i64 (Hit.d (q j)))), (6, 4, Cont.top)], 87, 90⟩) (by kernel_rfl) (by kernel_rfl) ?_
            rw [i64_in ((q j).j + (q j).r) (by omega)]
            refine evC_if (q := decide (y ≤ mn2 H (Hit.j (q j) + Hit.r (q j)))) (by kernel_rfl) (fun hc => ?_) (fun hc => ?_)
            · have hy := of_decide_eq_true hc
              clear hc
              refine evC_skip ?_
              refine then_normal ?_
              refine evC_seq ?_
              refine evC_block ?_
              refine evC_go0 (dec := []) (ks := [(0, 2), (0, 6), (0, 7), (0, 8), (0, 9), (1, 0), (1, 1), (1, 2), (1, 3), (1, 4), (2, 0), (2, 1), (2, 2), (2, 3), (2, 4), (3, 0), (3, 1), (4, 0), (4, 1), (5, 0), (6, 0), (6, 1), (6, 2), (6, 3), (6, 4)]) (s' := ⟨[(0, 2, Cont.cell (AV.ptr 1 0)), (0, 6, Cont.cell (AV.ptr 4 0)), (0, 7, Cont.cell (AV.ptr 6 0)), (0, 8, Cont.cell (AV.int IntKind.i64 y)), (0, 9, Cont.cell (AV.int IntKind.i64 (mx2 0 (IntKind.i64.wrap (Hit.i (q j) - Hit.r (q j)))))), (1, 0, Cont.cell (AV.int IntKind.i64 W)), (1, 1, Cont.cell (AV.int IntKind.i64 H)), (1, 2, Cont.cell (AV.int IntKind.i64 A)), (1, 3, Cont.cell (AV.vs 5)), (1, 4, Cont.top), (2, 0, Cont.cell (AV.int IntKind.i64 0)), (2, 1, Cont.cell (AV.int IntKind.i64 0)), (2, 2, Cont.cell (AV.int IntKind.i64 0)), (2, 3, Cont.cell AV.nils), (2, 4, Cont.top), (3, 0, Cont.cell (AV.int IntKind.i64 0)), (3, 1, Cont.top), (4, 0, Cont.cell (AV.vs 5)), (4, 1, Cont.top), (5, 0, Cont.vec 1 5 n (nU (stP W (q j) v y (mx2 0 (Hit.i (q j) - Hit.r (q j)))))), (6, 0, Cont.cell (AV.int IntKind.i64 (Hit.i (q j)))), (6, 1, Cont.cell (AV.int IntKind.i64 (Hit.j (q j)))), (6, 2, Cont.cell (AV.int IntKind.i64 (Hit.r (q j)))), (6, 3, Cont.cell (AV.int IntKind.i64 (Hit.d (q j)))), (6, 4, Cont.top)], 143, 90⟩) (by kernel_rfl) (by kernel_rfl) ?_
              rw [i64_in ((q j).i - (q j).r) (by omega)]
              refine evC_block ?_
              refine evC_loop (ι := { x : Int // mx2 0 ((q j).i - (q j).r) ≤ x ∧ x ≤ 200 }) (fun x => ⟨[(0, 2, Cont.cell (AV.ptr 1 0)), (0, 6, Cont.cell (AV.ptr 4 0)), (0, 7, Cont.cell (AV.ptr 6 0)), (0, 8, Cont.cell (AV.int IntKind.i64 y)), (0, 9, .cell (.int .i64 x.1)), (1, 0, Cont.cell (AV.int IntKind.i64 W)), (1, 1, Cont.cell (AV.int IntKind.i64 H)), (1, 2, Cont.cell (AV.int IntKind.i64 A)), (1, 3, Cont.cell (AV.vs 5)), (1, 4, Cont.top), (2, 0, Cont.cell (AV.int IntKind.i64 0)), (2, 1, Cont.cell (AV.int IntKind.i64 0)), (2, 2, Cont.cell (AV.int IntKind.i64 0)), (2, 3, Cont.cell AV.nils), (2, 4, Cont.top), (3, 0, Cont.cell (AV.int IntKind.i64 0)), (3, 1, Cont.top), (4, 0, Cont.cell (AV.vs 5)), (4, 1, Cont.top), (5, 0, .vec 1 5 n (nU (stP W (q j) v y x.1))), (6, 0, Cont.cell (AV.int IntKind.i64 (Hit.i (q j)))), (6, 1, Cont.cell (AV.int IntKind.i64 (Hit.j (q j)))), (6, 2, Cont.cell (AV.int IntKind.i64 (Hit.r (q j)))), (6, 3, Cont.cell (AV.int IntKind.i64 (Hit.d (q j)))), (6, 4, Cont.top)], 7, 90⟩) (fun x => (300 - x.1).toNat) ⟨mx2 0 ((q j).i - (q j).r), Int.le_refl _, by unfold mx2; split <;> omega⟩ (wk_go [6] rfl (by decide) rfl rfl ⟨⟨_, rfl, rfl⟩, ⟨_, rfl, rfl⟩, ⟨_, rfl, rfl⟩, ⟨_, rfl, rfl⟩, ⟨_, rfl, rfl⟩, ⟨_, rfl, rfl⟩, ⟨_, rfl, rfl⟩, ⟨_, rfl, rfl⟩, ⟨_, rfl, rfl⟩, ⟨_, rfl, trivial⟩, ⟨_, rfl, rfl⟩, ⟨_, rfl, rfl⟩, ⟨_, rfl, rfl⟩, ⟨_, rfl, rfl⟩, ⟨_, rfl, trivial⟩, ⟨_, rfl, rfl⟩, ⟨_, rfl, trivial⟩, ⟨_, rfl, rfl⟩, ⟨_, rfl, trivial⟩, ⟨_, rfl, ⟨rfl, rfl, rfl, fun _ _ => rfl⟩⟩, ⟨_, rfl, rfl⟩, ⟨_, rfl, rfl⟩, ⟨_, rfl, rfl⟩, ⟨_, rfl, rfl⟩, ⟨_, rfl, trivial⟩, trivial⟩) ?_
              rintro ⟨x, x1, x2⟩
              have x0 : 0 ≤ x := Int.le_trans (by unfold mx2; split <;> omega) x1
              refine evC_seq ?_
              refine evC_go0 (dec := []) (ks := [(0, 2), (0, 6), (0, 7), (0, 8), (0, 9), (0, 64), (1, 0), (1, 1), (1, 2), (1, 3), (1, 4), (2, 0), (2, 1), (2, 2), (2, 3), (2, 4), (3, 0), (3, 1), (4, 0), (4, 1), (5, 0), (6, 0), (6, 1), (6, 2), (6, 3), (6, 4)]) (s' := ⟨[(0, 2, Cont.cell (AV.ptr 1 0)), (0, 6, Cont.cell (AV.ptr 4 0)), (0, 7, Cont.cell (AV.ptr 6 0)), (0, 8, Cont.cell (AV.int IntKind.i64 y)), (0, 9, Cont.cell (AV.int IntKind.i64 x)), (0, 64, Cont.cell (AV.bool (decide (x ≤ mn2 W (IntKind.i64.wrap (Hit.i (q j) + Hit.r (q j))))))), (1, 0, Cont.cell (AV.int IntKind.i64 W)), (1, 1, Cont.cell (AV.int IntKind.i64 H)), (1, 2, Cont.cell (AV.int IntKind.i64 A)), (1, 3, Cont.cell (AV.vs 5)), (1, 4, Cont.top), (2, 0, Cont.cell (AV.int IntKind.i64 0)), (2, 1, Cont.cell (AV.int IntKind.i64 0)), (2, 2, Cont.cell (AV.int IntKind.i64 0)), (2, 3, Cont.cell AV.nils), (2, 4, Cont.top), (3, 0, Cont.cell (AV.int IntKind.i64 0)), (3, 1, Cont.top), (4, 0, Cont.cell (AV.vs 5)), (4, 1, Cont.top), (5, 0, Cont.vec 1 5 n (nU (stP W (q j) v y x))), (6, 0, Cont.cell (AV.int IntKind.i64 (Hit.i (q j)))), (6, 1, Cont.cell (AV.int IntKind.i64 (Hit.j (q j)))), (6, 2, Cont.cell (AV.int IntKind.i64 (Hit.r (q j)))), (6, 3, Cont.cell (AV.int IntKind.i64 (Hit.d (q j)))), (6, 4, Cont.top)], 87, 90⟩) (by kernel_rfl) (by kernel_rfl) ?_
              rw [i64_in ((q j).i + (q j).r) (by omega)]
              refine evC_if (q := decide (x ≤ mn2 W (Hit.i (q j) + Hit.r (q j)))) (by kernel_rfl) (fun hc => ?_) (fun hc => ?_)
              · have hx := of_decide_eq_true hc
                clear hc
                have hxW : x ≤ W := Int.le_trans hx (by unfold mn2; split <;> omega)
                have hyH : y ≤ H := Int.le_trans hy (by unfold mn2; split <;> omega)
                have hk1 := mul_le_of (a := W + 1) (b := y) (m := W + 1) (n := H) ⟨by omega, by omega⟩ ⟨by omega, by omega⟩
                have hk2 : (W + 1) * (H + 1) = (W + 1) * H + (W + 1) := by rw [Int.mul_add, Int.mul_one]
                have hkn : ((W + 1) * y + x).toNat < n := by omega
                have hkv := hv _ hkn
                have hcell := stP_cell (W := W) (h := q j) (u := v) (i := x) (j := y) (by omega) ⟨x0, hxW⟩ y0
                have hstep := stP_step (W := W) (h := q j) (u := v) (i := x) (j := y) (by omega) ⟨x0, hxW⟩ y0 ⟨by unfold mx2 at x1; split at x1 <;> omega, by unfold mn2 at hx; split at hx <;> omega⟩ ⟨by unfold mx2 at y1; split at y1 <;> omega, by unfold mn2 at hy; split at hy <;> omega⟩
                have e1 : IntKind.i64.wrap (W + 1) = W + 1 := i64_in _ (by omega)
                have e2 : IntKind.i64.wrap ((W + 1) * y) = (W + 1) * y := i64_in _ (by omega)
                have e3 : IntKind.i64.wrap ((W + 1) * y + x) = (W + 1) * y + x := i64_in _ (by omega)
                have hnn : 0 ≤ (W + 1) * y + x ∧ (W + 1) * y + x < n := by omega
                refine evC_skip ?_
                refine then_normal ?_
                refine evC_seq ?_
                refine evC_block ?_
                refine evC_go (dec := []) (ks := [(0, 2), (0, 6), (0, 7), (0, 8), (0, 9), (0, 10), (1, 0), (1, 1), (1, 2), (1, 3), (1, 4), (2, 0), (2, 1), (2, 2), (2, 3), (2, 4), (3, 0), (3, 1), (4, 0), (4, 1), (5, 0), (6, 0), (6, 1), (6, 2), (6, 3), (6, 4)]) (ps := [(0 : Int) ≤ IntKind.i64.wrap (IntKind.i64.wrap (IntKind.i64.wrap (W + (1 : Int)) * y) + x), IntKind.i64.wrap (IntKind.i64.wrap (IntKind.i64.wrap (W + (1 : Int)) * y) + x) < (↑n : Int), (1 : Nat) = (1 : Nat)]) (s' := ⟨[(0, 2, Cont.cell (AV.ptr 1 0)), (0, 6, Cont.cell (AV.ptr 4 0)), (0, 7, Cont.cell (AV.ptr 6 0)), (0, 8, Cont.cell (AV.int IntKind.i64 y)), (0, 9, Cont.cell (AV.int IntKind.i64 x)), (0, 10, Cont.cell (AV.vp 5 1 (IntKind.i64.wrap (IntKind.i64.wrap (IntKind.i64.wrap (W + 1) * y) + x)) 0)), (1, 0, Cont.cell (AV.int IntKind.i64 W)), (1, 1, Cont.cell (AV.int IntKind.i64 H)), (1, 2, Cont.cell (AV.int IntKind.i64 A)), (1, 3, Cont.cell (AV.vs 5)), (1, 4, Cont.top), (2, 0, Cont.cell (AV.int IntKind.i64 0)), (2, 1, Cont.cell (AV.int IntKind.i64 0)), (2, 2, Cont.cell (AV.int IntKind.i64 0)), (2, 3, Cont.cell AV.nils), (2, 4, Cont.top), (3, 0, Cont.cell (AV.int IntKind.i64 0)), (3, 1, Cont.top), (4, 0, Cont.cell (AV.vs 5)), (4, 1, Cont.top), (5, 0, Cont.vec 1 5 n (nU (stP W (q j) v y x))), (6, 0, Cont.cell (AV.int IntKind.i64 (Hit.i (q j)))), (6, 1, Cont.cell (AV.int IntKind.i64 (Hit.j (q j)))), (6, 2, Cont.cell (AV.int IntKind.i64 (Hit.r (q j)))), (6, 3, Cont.cell (AV.int IntKind.i64 (Hit.d (q j)))), (6, 4, Cont.top)], 167, 90⟩) (by kernel_rfl) (by kernel_rfl) ?_ ?_
                · rw [e1, e2, e3]
                  (simp only [All]; (repeat' apply And.intro) <;> (try intro _) <;> (try intro _) <;> (repeat' apply And.intro) <;> (try intro _) <;> (try intro _) <;> first | trivial | assumption | exact .inr trivial | exact .inr rfl | omega | rfl | exact ⟨_, rfl, rfl⟩ | exact ⟨rfl, rfl⟩ | exact ⟨fun _ => rfl, fun _ => rfl⟩ | (unfold maxLen; omega) | (unfold i64R; first | omega | decide) | decide)
                rw [e1, e2, e3]
                have l1 := lowers_nonneg (q j) x y
                have l2 := lowers_le (q j) x y
                refine evC_goL (dec := []) (ks := [(0, 2), (0, 6), (0, 7), (0, 8), (0, 9), (1, 0), (1, 1), (1, 2), (1, 3), (1, 4), (2, 0), (2, 1), (2, 2), (2, 3), (2, 4), (3, 0), (3, 1), (4, 0), (4, 1), (5, 0), (6, 0), (6, 1), (6, 2), (6, 3), (6, 4)]) (ps := [(0 : Int) ≤ (W + (1 : Int)) * y + x, (W + (1 : Int)) * y + x < (↑n : Int), (1 : Nat) = (1 : Nat), (0 : Int) ≤ (W + (1 : Int)) * y + x, (W + (1 : Int)) * y + x < (↑n : Int), (1 : Nat) = (1 : Nat), widthC (AV.cells (AV.int IntKind.u8 (IntKind.wrap IntKind.u8 (mx2 (0 : Int) (IntKind.i64.wrap (IntKind.i64.wrap (stP W (q j) v y x (Int.toNat ((W + (1 : Int)) * y + x))) - lowers { i := Hit.i (q j), j := Hit.j (q j), r := Hit.r (q j), d := Hit.d (q j) } x y)))))) = (1 : Nat)]) (s' := ⟨[(0, 2, Cont.cell (AV.ptr 1 0)), (0, 6, Cont.cell (AV.ptr 4 0)), (0, 7, Cont.cell (AV.ptr 6 0)), (0, 8, Cont.cell (AV.int IntKind.i64 y)), (0, 9, Cont.cell (AV.int IntKind.i64 x)), (1, 0, Cont.cell (AV.int IntKind.i64 W)), (1, 1, Cont.cell (AV.int IntKind.i64 H)), (1, 2, Cont.cell (AV.int IntKind.i64 A)), (1, 3, Cont.cell (AV.vs 5)), (1, 4, Cont.top), (2, 0, Cont.cell (AV.int IntKind.i64 0)), (2, 1, Cont.cell (AV.int IntKind.i64 0)), (2, 2, Cont.cell (AV.int IntKind.i64 0)), (2, 3, Cont.cell AV.nils), (2, 4, Cont.top), (3, 0, Cont.cell (AV.int IntKind.i64 0)), (3, 1, Cont.top), (4, 0, Cont.cell (AV.vs 5)), (4, 1, Cont.top), (5, 0, Cont.vec 1 5 n fun j_1 => bif j_1 == Int.toNat ((W + 1) * y + x) then AV.int IntKind.u8 (IntKind.wrap IntKind.u8 (mx2 0 (IntKind.i64.wrap (IntKind.i64.wrap (stP W (q j) v y x (Int.toNat ((W + 1) * y + x))) - lowers { i := Hit.i (q j), j := Hit.j (q j), r := Hit.r (q j), d := Hit.d (q j) } x y)))) else nU (stP W (q j) v y x) j_1), (6, 0, Cont.cell (AV.int IntKind.i64 (Hit.i (q j)))), (6, 1, Cont.cell (AV.int IntKind.i64 (Hit.j (q j)))), (6, 2, Cont.cell (AV.int IntKind.i64 (Hit.r (q j)))), (6, 3, Cont.cell (AV.int IntKind.i64 (Hit.d (q j)))), (6, 4, Cont.top)], 279, 90⟩) (by kernel_rfl) (by kernel_rfl) ?_ ?_
                · (simp only [All]; (repeat' apply And.intro) <;> (try intro _) <;> (try intro _) <;> (repeat' apply And.intro) <;> (try intro _) <;> (try intro _) <;> first | trivial | assumption | exact .inr trivial | exact .inr rfl | omega | rfl | exact ⟨_, rfl, rfl⟩ | exact ⟨rfl, rfl⟩ | exact ⟨fun _ => rfl, fun _ => rfl⟩ | (unfold maxLen; omega) | (unfold i64R; first | omega | decide) | decide)
                have hlast : IntKind.u8.wrap (mx2 0 (IntKind.i64.wrap (IntKind.i64.wrap (stP W (q j) v y x ((W + 1) * y + x).toNat) - lowers (q j) x y))) = stV W (q j) v ((W + 1) * y + x).toNat := by
                  rw [hcell]
                  obtain ⟨c1, c2⟩ := cell_at (W := W) (i := x) (j := y) (by omega) ⟨x0, hxW⟩ y0
                  unfold stV
                  rw [c1, c2, i64_in (v _) (by omega), i64_in (v _ - _) (by omega)]
                  exact u8_in _ (by unfold mx2; split <;> omega)
                refine block_normal ?_
                refine then_normal ?_
                refine evC_goL0 (dec := []) (ks := [(0, 2), (0, 6), (0, 7), (0, 8), (0, 9), (1, 0), (1, 1), (1, 2), (1, 3), (1, 4), (2, 0), (2, 1), (2, 2), (2, 3), (2, 4), (3, 0), (3, 1), (4, 0), (4, 1), (5, 0), (6, 0), (6, 1), (6, 2), (6, 3), (6, 4)]) (s' := ⟨[(0, 2, Cont.cell (AV.ptr 1 0)), (0, 6, Cont.cell (AV.ptr 4 0)), (0, 7, Cont.cell (AV.ptr 6 0)), (0, 8, Cont.cell (AV.int IntKind.i64 y)), (0, 9, Cont.cell (AV.int IntKind.i64 (IntKind.i64.wrap (x + 1)))), (1, 0, Cont.cell (AV.int IntKind.i64 W)), (1, 1, Cont.cell (AV.int IntKind.i64 H)), (1, 2, Cont.cell (AV.int IntKind.i64 A)), (1, 3, Cont.cell (AV.vs 5)), (1, 4, Cont.top), (2, 0, Cont.cell (AV.int IntKind.i64 0)), (2, 1, Cont.cell (AV.int IntKind.i64 0)), (2, 2, Cont.cell (AV.int IntKind.i64 0)), (2, 3, Cont.cell AV.nils), (2, 4, Cont.top), (3, 0, Cont.cell (AV.int IntKind.i64 0)), (3, 1, Cont.top), (4, 0, Cont.cell (AV.vs 5)), (4, 1, Cont.top), (5, 0, Cont.vec 1 5 n fun j_1 => bif j_1 == Int.toNat ((W + 1) * y + x) then AV.int IntKind.u8 (IntKind.wrap IntKind.u8 (mx2 0 (IntKind.i64.wrap (IntKind.i64.wrap (stP W (q j) v y x (Int.toNat ((W + 1) * y + x))) - lowers (q j) x y)))) else nU (stP W (q j) v y x) j_1), (6, 0, Cont.cell (AV.int IntKind.i64 (Hit.i (q j)))), (6, 1, Cont.cell (AV.int IntKind.i64 (Hit.j (q j)))), (6, 2, Cont.cell (AV.int IntKind.i64 (Hit.r (q j)))), (6, 3, Cont.cell (AV.int IntKind.i64 (Hit.d (q j)))), (6, 4, Cont.top)], 303, 90⟩) (by kernel_rfl) (by kernel_rfl) ?_
                refine round_normal (⟨x + 1, by omega, by omega⟩) (wk_go [6] rfl (by decide) rfl rfl ⟨⟨_, rfl, rfl⟩, ⟨_, rfl, rfl⟩, ⟨_, rfl, rfl⟩, ⟨_, rfl, rfl⟩, ⟨_, rfl, ?_⟩, ⟨_, rfl, rfl⟩, ⟨_, rfl, rfl⟩, ⟨_, rfl, rfl⟩, ⟨_, rfl, rfl⟩, ⟨_, rfl, trivial⟩, ⟨_, rfl, rfl⟩, ⟨_, rfl, rfl⟩, ⟨_, rfl, rfl⟩, ⟨_, rfl, rfl⟩, ⟨_, rfl, trivial⟩, ⟨_, rfl, rfl⟩, ⟨_, rfl, trivial⟩, ⟨_, rfl, rfl⟩, ⟨_, rfl, trivial⟩, ⟨_, rfl, ?_⟩, ⟨_, rfl, rfl⟩, ⟨_, rfl, rfl⟩, ⟨_, rfl, rfl⟩, ⟨_, rfl, rfl⟩, ⟨_, rfl, trivial⟩, trivial⟩) ?_
                · show AV.int .i64 _ = AV.int .i64 _
                  rw [i64_in (x + 1) (by omega)]
                · refine ⟨rfl, rfl, rfl, fun i hi => ?_⟩
                  show (bif i == ((W + 1) * y + x).toNat then AV.int .u8 _ else nU (stP W (q j) v y x) i) = AV.int .u8 (stP W (q j) v y (x + 1) i)
                  rw [hlast, hstep i]
                  cases hbb : i == ((W + 1) * y + x).toNat with
                  | true =>
                    have : i = ((W + 1) * y + x).toNat := by simpa using hbb
                    rw [this]; rfl
                  | false => rfl
                · show (300 - (x + 1)).toNat < (300 - x).toNat
                  omega
              · have hx : mn2 W ((q j).i + (q j).r) < x := by have := of_decide_eq_false hc; omega
                have hyB : y ≤ 199 := Int.le_trans hy (by unfold mn2; split <;> omega)
                have hrow := fun i => stP_row (W := W) (h := q j) (u := v) (i := x) (j := y) (by omega) hx i
                refine evC_exit ?_
                refine then_exit ?_
                refine round_exit ?_
                refine block_exit ?_
                refine block_normal ?_
                refine then_normal ?_
                refine evC_goL0 (dec := []) (ks := [(0, 2), (0, 6), (0, 7), (0, 8), (1, 0), (1, 1), (1, 2), (1, 3), (1, 4), (2, 0), (2, 1), (2, 2), (2, 3), (2, 4), (3, 0), (3, 1), (4, 0), (4, 1), (5, 0), (6, 0), (6, 1), (6, 2), (6, 3), (6, 4)]) (s' := ⟨[(0, 2, Cont.cell (AV.ptr 1 0)), (0, 6, Cont.cell (AV.ptr 4 0)), (0, 7, Cont.cell (AV.ptr 6 0)), (0, 8, Cont.cell (AV.int IntKind.i64 (IntKind.i64.wrap (y + 1)))), (1, 0, Cont.cell (AV.int IntKind.i64 W)), (1, 1, Cont.cell (AV.int IntKind.i64 H)), (1, 2, Cont.cell (AV.int IntKind.i64 A)), (1, 3, Cont.cell (AV.vs 5)), (1, 4, Cont.top), (2, 0, Cont.cell (AV.int IntKind.i64 0)), (2, 1, Cont.cell (AV.int IntKind.i64 0)), (2, 2, Cont.cell (AV.int IntKind.i64 0)), (2, 3, Cont.cell AV.nils), (2, 4, Cont.top), (3, 0, Cont.cell (AV.int IntKind.i64 0)), (3, 1, Cont.top), (4, 0, Cont.cell (AV.vs 5)), (4, 1, Cont.top), (5, 0, Cont.vec 1 5 n (nU (stP W (q j) v y x))), (6, 0, Cont.cell (AV.int IntKind.i64 (Hit.i (q j)))), (6, 1, Cont.cell (AV.int IntKind.i64 (Hit.j (q j)))), (6, 2, Cont.cell (AV.int IntKind.i64 (Hit.r (q j)))), (6, 3, Cont.cell (AV.int IntKind.i64 (Hit.d (q j)))), (6, 4, Cont.top)], 111, 90⟩) (by kernel_rfl) (by kernel_rfl) ?_
                refine round_normal (⟨y + 1, by omega, by omega⟩) (wk_go [6] rfl (by decide) rfl rfl ⟨⟨_, rfl, rfl⟩, ⟨_, rfl, rfl⟩, ⟨_, rfl, rfl⟩, ⟨_, rfl, ?_⟩, ⟨_, rfl, rfl⟩, ⟨_, rfl, rfl⟩, ⟨_, rfl, rfl⟩, ⟨_, rfl, rfl⟩, ⟨_, rfl, trivial⟩, ⟨_, rfl, rfl⟩, ⟨_, rfl, rfl⟩, ⟨_, rfl, rfl⟩, ⟨_, rfl, rfl⟩, ⟨_, rfl, trivial⟩, ⟨_, rfl, rfl⟩, ⟨_, rfl, trivial⟩, ⟨_, rfl, rfl⟩, ⟨_, rfl, trivial⟩, ⟨_, rfl, ?_⟩, ⟨_, rfl, rfl⟩, ⟨_, rfl, rfl⟩, ⟨_, rfl, rfl⟩, ⟨_, rfl, rfl⟩, ⟨_, rfl, trivial⟩, trivial⟩) ?_
                · show AV.int .i64 _ = AV.int .i64 _
                  rw [i64_in (y + 1) (by omega)]
                · refine ⟨rfl, rfl, rfl, fun i hi => ?_⟩
                  exact congrArg (AV.int .u8) (hrow i)
                · show (300 - (y + 1)).toNat < (300 - y).toNat
                  omega
            · have hy : mn2 H ((q j).j + (q j).r) < y := by have := of_decide_eq_false hc; omega
              refine evC_exit ?_
              refine then_exit ?_
              refine round_exit ?_
              refine block_exit ?_
              refine block_normal ?_
              refine rpost_normal (⟨by show (allH q j && mayH (q j)) = true; rw [ha, hm]; rfl⟩) (wk_go [] rfl (by decide) rfl rfl ⟨⟨_, rfl, rfl⟩, ⟨_, rfl, rfl⟩, ⟨_, rfl, rfl⟩, ⟨_, rfl, rfl⟩, ⟨_, rfl, trivial⟩, ⟨_, rfl, rfl⟩, ⟨_, rfl, rfl⟩, ⟨_, rfl, rfl⟩, ⟨_, rfl, rfl⟩, ⟨_, rfl, trivial⟩, ⟨_, rfl, rfl⟩, ⟨_, rfl, trivial⟩, ⟨_, rfl, rfl⟩, ⟨_, rfl, trivial⟩, ⟨_, rfl, ?_⟩, trivial⟩)
              · refine ⟨rfl, rfl, rfl, fun i hi => ?_⟩
                rw [hst1]
                exact congrArg (AV.int .u8) (stP_end (W := W) (H := H) (by omega) (by omega) g2 hy i hi)
        · rintro ⟨ha⟩
          dsimp only
          have hE : stE W H A n q k = 0 := by unfold stE; rw [h0, ha]; rfl
          refine then_normal ?_
          refine evC_go0 (dec := []) (ks := [(0, 4), (0, 5), (2, 0), (2, 1), (2, 2), (2, 3), (2, 4), (3, 0), (3, 1), (5, 0)]) (s' := ⟨[(0, 4, Cont.cell (AV.ptr 2 0)), (0, 5, Cont.cell (AV.ptr 3 0)), (2, 0, Cont.cell (AV.int IntKind.i64 W)), (2, 1, Cont.cell (AV.int IntKind.i64 H)), (2, 2, Cont.cell (AV.int IntKind.i64 A)), (2, 3, Cont.cell (AV.vs 5)), (2, 4, Cont.top), (3, 0, Cont.cell (AV.int IntKind.i64 0)), (3, 1, Cont.top), (5, 0, Cont.vec 1 5 n (nU (stN W q u k)))], 30, 90⟩) (by kernel_rfl) (by kernel_rfl) ?_
          refine evC_ret ?_
          refine post_ret ?_
          rw [hE]
          refine ends_go [5] (AV.tup [AV.agg [AV.int IntKind.i64 W, AV.int IntKind.i64 H, AV.int IntKind.i64 A, AV.vs 1], AV.int IntKind.i64 0]) [(1, 0, Cont.vec 1 5 n (nU (stN W q u k)))] rfl (by decide) rfl rfl (has_of _ rfl) rfl ⟨⟨_, rfl, ⟨rfl, rfl, rfl, fun _ _ => rfl⟩⟩, trivial⟩ ⟨fun _ => ⟨1, _, rfl, rfl, rfl, ⟨rfl, rfl, rfl, fun _ _ => ⟨has_of _ rfl, rfl⟩⟩⟩, trivial⟩ (kept_nil _)
    · cases e
  · cases e
end Go.Eng.S27
