/- Seat 22: the chapter's examples, and queues, walked. -/
import Derived.Test.YtdflehcijhejlaaEngX
import Derived.Test.YtdflehcijhejlaaS22F
import Derived.Test.YtdflehcijhejlaaS22G
set_option linter.unusedSimpArgs false
set_option linter.unusedVariables false
namespace Go.Eng.S22
open Go.Proofs Go.IntWalk
set_option maxRecDepth 10000

def sAwake : Spec := fun args _ _ => match args with
  | [] => some ⟨[], .bool true, [], []⟩
  | _ => none
theorem awake_ok : SpecOK Try.prog 10 sAwake := by
  refine spec_own (by kernel_rfl) T_ok (sget_cons enc_ok (sget_cons dec_ok (sget_cons check_ok sget_nil))) Try.func10 rfl rfl fun args hr nb out e => ?_
  unfold sAwake at e
  split at e
  · injection e with e; subst e
    refine ⟨(fun _ h => nomatch h), true, [], rfl, fun hs => ⟨.nil, ?_⟩⟩
    refine evC_go0 (dec := []) (ks := [(0, 0)]) (s' := ⟨[(0, 0, Cont.cell (AV.bool false))], 9, 36⟩) (by kernel_rfl) (by kernel_rfl) ?_
    refine evC_go (dec := []) (ks := [(0, 0), (0, 1), (25, 0)]) (ps := [(∀ (i : Nat), i < (1 : Nat) → pget [((0 : Nat), AV.agg ([AV.int IntKind.i64 (1 : Int), AV.int IntKind.i64 (64 : Int), AV.int IntKind.i64 (3 : Int)] ++ AV.cells (AV.int IntKind.i64 (4 : Int)) ++ [AV.int IntKind.i64 (0 : Int)]))] i = nO (O (pget [((0 : Nat), AV.agg ([AV.int IntKind.i64 (1 : Int), AV.int IntKind.i64 (64 : Int), AV.int IntKind.i64 (3 : Int)] ++ AV.cells (AV.int IntKind.i64 (4 : Int)) ++ [AV.int IntKind.i64 (0 : Int)]))])) i) ∧ (1 : Nat) ≤ maxLen]) (s' := ⟨[(0, 0, Cont.cell (AV.bool false)), (0, 1, Cont.cell (AV.vs 25)), (25, 0, Cont.vec 1 5 11 (lstU (encL (O (pget [(0, AV.agg ([AV.int IntKind.i64 1, AV.int IntKind.i64 64, AV.int IntKind.i64 3] ++ AV.cells (AV.int IntKind.i64 4) ++ [AV.int IntKind.i64 0]))])) 1)))], 41, 36⟩) (by kernel_rfl) (by kernel_rfl) ?_ ?_
    · refine ⟨fun i hi => ?_, by unfold maxLen; omega⟩
      have : i = 0 := by omega
      subst this
      rfl
    refine evC_wk (s' := ⟨[(0, 0, Cont.cell (AV.bool false)), (0, 1, Cont.cell (AV.vs 1)), (1, 0, .vec 1 5 11 (lstU [1, 64, 0, 0, 0, 3, 4, 0, 0, 0, 0]))], 2, 36⟩) _ (wk_go [25] rfl (by decide) rfl rfl ⟨⟨_, rfl, rfl⟩, ⟨_, rfl, rfl⟩, ⟨_, rfl, ⟨rfl, rfl, rfl, fun _ _ => rfl⟩⟩, trivial⟩) ?_
    have h12 : IsU 12 (fun _ => AV.int .u8 0) := ⟨fun _ _ => ⟨rfl, Int.le_refl 0, by show (0 : Int) ≤ 255; omega⟩⟩
    refine evC_go (dec := []) (ks := [(0, 0), (0, 1), (0, 3), (0, 4), (1, 0)]) (ps := [(0 : Int) ≤ (12 : Int), (12 : Int) = (12 : Int), (↑(1 : Nat) : Int) * (12 : Int) ≤ (281474976710656 : Int), (12 : Int) ≤ (9223372036854775807 : Int), (IsU (Int.toNat (12 : Int)) fun x => AV.int IntKind.u8 (0 : Int)) ∧ Int.toNat (12 : Int) ≤ maxLen]) (s' := ⟨[(0, 0, Cont.cell (AV.bool false)), (0, 1, Cont.cell (AV.vs 1)), (0, 3, Cont.cell (AV.int IntKind.i64 (errD (Int.toNat 12) (U fun x => AV.int IntKind.u8 0)))), (0, 4, Cont.cell (AV.int IntKind.i64 (atD (Int.toNat 12) (U fun x => AV.int IntKind.u8 0)))), (1, 0, Cont.vec 1 5 11 (lstU [1, 64, 0, 0, 0, 3, 4, 0, 0, 0, 0]))], 74, 36⟩) (by kernel_rfl) (by kernel_rfl) ?_ ?_
    · exact ⟨by omega, rfl, by omega, by omega, h12, by unfold maxLen; omega⟩
    refine evC_go0 (dec := []) (ks := [(0, 0), (0, 1), (0, 3), (0, 4), (0, 5), (1, 0), (82, 0), (82, 64), (82, 128), (82, 192), (82, 193), (82, 194), (82, 195), (82, 259)]) (s' := ⟨[(0, 0, Cont.cell (AV.bool false)), (0, 1, Cont.cell (AV.vs 1)), (0, 3, Cont.cell (AV.int IntKind.i64 (errD (Int.toNat 12) (U fun x => AV.int IntKind.u8 0)))), (0, 4, Cont.cell (AV.int IntKind.i64 (atD (Int.toNat 12) (U fun x => AV.int IntKind.u8 0)))), (0, 5, Cont.cell (AV.ptr 82 0)), (1, 0, Cont.vec 1 5 11 (lstU [1, 64, 0, 0, 0, 3, 4, 0, 0, 0, 0])), (82, 0, Cont.arr 64 fun x => AV.int IntKind.i64 0), (82, 64, Cont.arr 64 fun x => AV.bool false), (82, 128, Cont.arr 64 fun x => AV.int IntKind.i64 0), (82, 192, Cont.cell (AV.int IntKind.i64 1)), (82, 193, Cont.cell (AV.int IntKind.i64 1)), (82, 194, Cont.cell (AV.int IntKind.i64 1)), (82, 195, Cont.arr 64 fun x => AV.bool false), (82, 259, Cont.top)], 98, 36⟩) (by kernel_rfl) (by kernel_rfl) ?_
    refine evC_go (dec := []) (ks := [(0, 0), (0, 1), (0, 3), (0, 4), (0, 5), (1, 0), (82, 0), (82, 64), (82, 128), (82, 192), (82, 193), (82, 194), (82, 195), (82, 259)]) (ps := [(0 : Int) ≤ (0 : Int), (0 : Int) < (↑(64 : Nat) : Int), (0 : Int) ≤ (0 : Int), (0 : Int) < (↑(64 : Nat) : Int)]) (s' := ⟨[(0, 0, Cont.cell (AV.bool false)), (0, 1, Cont.cell (AV.vs 1)), (0, 3, Cont.cell (AV.int IntKind.i64 (errD (Int.toNat 12) (U fun x => AV.int IntKind.u8 0)))), (0, 4, Cont.cell (AV.int IntKind.i64 (atD (Int.toNat 12) (U fun x => AV.int IntKind.u8 0)))), (0, 5, Cont.cell (AV.ptr 82 0)), (1, 0, Cont.vec 1 5 11 (lstU [1, 64, 0, 0, 0, 3, 4, 0, 0, 0, 0])), (82, 0, Cont.arr 64 fun j => bif j == Int.toNat 0 then AV.int IntKind.i64 1 else AV.int IntKind.i64 0), (82, 64, Cont.arr 64 fun x => AV.bool false), (82, 128, Cont.arr 64 fun x => AV.int IntKind.i64 0), (82, 192, Cont.cell (AV.int IntKind.i64 1)), (82, 193, Cont.cell (AV.int IntKind.i64 1)), (82, 194, Cont.cell (AV.int IntKind.i64 1)), (82, 195, Cont.arr 64 fun x => AV.bool false), (82, 259, Cont.top)], 130, 36⟩) (by kernel_rfl) (by kernel_rfl) ?_ ?_
    · (simp only [All]; (repeat' apply And.intro) <;> (try intro _) <;> (try intro _) <;> (repeat' apply And.intro) <;> (try intro _) <;> (try intro _) <;> first | trivial | assumption | exact .inr trivial | exact .inr rfl | omega | rfl | exact ⟨_, rfl, rfl⟩ | exact ⟨rfl, rfl⟩ | exact ⟨fun _ => rfl, fun _ => rfl⟩ | (unfold maxLen; omega) | (unfold i64R; first | omega | decide) | decide)
    refine evC_go (dec := []) (ks := [(0, 0)]) (ps := [(11 : Nat) = (0 : Nat) ∨ (1 : Nat) = (1 : Nat), ∀ (i : Nat), i < (11 : Nat) → lstU [(1 : Int), (64 : Int), (0 : Int), (0 : Int), (0 : Int), (3 : Int), (4 : Int), (0 : Int), (0 : Int), (0 : Int), (0 : Int)] i = AV.int IntKind.u8 (iv (lstU [(1 : Int), (64 : Int), (0 : Int), (0 : Int), (0 : Int), (3 : Int), (4 : Int), (0 : Int), (0 : Int), (0 : Int), (0 : Int)] i)), List.all [bif bif ByteArray.toList (mkStr (11 : Nat) (lstU [(1 : Int), (64 : Int), (0 : Int), (0 : Int), (0 : Int), (3 : Int), (4 : Int), (0 : Int), (0 : Int), (0 : Int), (0 : Int)])) == ByteArray.toList { data := #[(1 : UInt8), (64 : UInt8), (0 : UInt8), (0 : UInt8), (0 : UInt8), (3 : UInt8), (4 : UInt8), (0 : UInt8), (0 : UInt8), (0 : UInt8), (0 : UInt8)] } then errD (Int.toNat (12 : Int)) (U fun x => AV.int IntKind.u8 (0 : Int)) == (2 : Int) else false then atD (Int.toNat (12 : Int)) (U fun x => AV.int IntKind.u8 (0 : Int)) == (1 : Int) else false] id = true → IsSc (fun j => bif j == Int.toNat (0 : Int) then AV.int IntKind.i64 (1 : Int) else AV.int IntKind.i64 (0 : Int)) (fun x => AV.bool false) (fun x => AV.int IntKind.i64 (0 : Int)) fun x => AV.bool false]) (s' := ⟨[(0, 0, Cont.cell (AV.bool true))], 274, 36⟩) (by kernel_rfl) (by kernel_rfl) ?_ ?_
    · refine ⟨.inr rfl, fun i hi => rfl, fun _ => ⟨fun i => ?_, fun _ => rfl, fun _ => rfl, fun _ => rfl⟩⟩
      show (bif i == Int.toNat 0 then AV.int .i64 1 else AV.int .i64 0) = .int .i64 (iv (bif i == Int.toNat 0 then AV.int .i64 1 else AV.int .i64 0))
      cases i == Int.toNat 0 <;> rfl
    refine evC_ret ?_
    refine post_ret ?_
    refine ends_flat (vs := [AV.bool true]) (Nat.zero_lt_succ _) (by kernel_rfl) (flat_of _ (by kernel_rfl)) rfl ?_
    rfl
  · cases e
/-- What a queue becomes. -/
def pushE (n : Nat) (w : Os) (q : Od) : Int := bif !(decide (n ≤ 8) && fO q && allO w n) then 1 else bif q.1 == 0 then 0 else bif n == 8 then 5 else 0
def pushN (n : Nat) (w : Os) (q : Od) : Nat := bif !(decide (n ≤ 8) && fO q && allO w n) then 0 else bif q.1 == 0 then 0 else bif n == 8 then 0 else n + 1
def pushW (n : Nat) (w : Os) (q : Od) : Os := fun i => bif Nat.blt i n then w i else q
def sPush : Spec := fun args hr nb => match args with
  | [v, .agg [.int .i64 k, .int .i64 u, .int .i64 i, .int .i64 j, .int .i64 t]] => match sl 5 hr v with
    | some (n, f, rd) => some ⟨[(∀ i, i < n → f i = nO (O f) i) ∧ n ≤ maxLen], .tup [.vs nb, .int .i64 (pushE n (O f) (k, u, i, j, t))], rd, [(nb, 0, .vec 5 28 (pushN n (O f) (k, u, i, j, t)) (nO (pushW n (O f) (k, u, i, j, t))))]⟩
    | none => none
  | _ => none
theorem push_ok : SpecOK Try.prog 21 sPush := by
  refine spec_own (by kernel_rfl) T_ok (sget_cons form_ok sget_nil) Try.func21 rfl rfl fun args hr nb out e => ?_
  unfold sPush at e
  split at e
  · rename_i v k u i j t
    split at e
    · rename_i n f rd hs1
      injection e with e; subst e
      refine ⟨fun x hx => sl_rd hs1 x hx, false, [.rs 5 n false (nO (O f)), od k u i j t], rfl, fun hs => ?_⟩
      obtain ⟨h1, h2⟩ := hs _ List.mem_cons_self
      refine ⟨.cons _ _ _ _ (.slice _ _ _ _ _ hs1 (fun y hy => ⟨hy, by simp⟩) _ fun i hi => ⟨h1 i hi, (nO_flat _ i).has⟩) (.cons _ _ _ _ (.same _ _ (od_flat _ _ _ _ _).has) .nil), ?_⟩
      clear hs h1
      unfold maxLen at h2
      generalize O f = w
      have hq : fO (k, u, i, j, t) = frm k u i j t := rfl
      have ee : pushE n w (k, u, i, j, t) = bif !(decide (n ≤ 8) && fO (k, u, i, j, t) && allO w n) then 1 else bif k == 0 then 0 else bif n == 8 then 5 else 0 := rfl
      have en : pushN n w (k, u, i, j, t) = bif !(decide (n ≤ 8) && fO (k, u, i, j, t) && allO w n) then 0 else bif k == 0 then 0 else bif n == 8 then 0 else n + 1 := rfl
      generalize hW : pushW n w (k, u, i, j, t) = w2
      rw [ee, en]
      unfold od
      have e0 : (bif decide ((n : Int) > 8) then true else !frm k u i j t) = !(decide (n ≤ 8) && fO (k, u, i, j, t)) := by
        rw [hq]
        by_cases h : n ≤ 8
        · have : ¬ (n : Int) > 8 := by omega
          simp [h, this]
        · have : (n : Int) > 8 := by omega
          simp [h, this]
      refine evC_go0 (dec := []) (ks := [(0, 0), (0, 3), (0, 4), (0, 5), (1, 0), (1, 1), (1, 2), (1, 3), (1, 4), (1, 5)]) (s' := ⟨[(0, 0, Cont.cell (AV.rs 5 n false (nO w))), (0, 3, Cont.cell (AV.ptr 1 0)), (0, 4, Cont.cell AV.nils), (0, 5, Cont.cell (AV.int IntKind.i64 0)), (1, 0, Cont.cell (AV.int IntKind.i64 k)), (1, 1, Cont.cell (AV.int IntKind.i64 u)), (1, 2, Cont.cell (AV.int IntKind.i64 i)), (1, 3, Cont.cell (AV.int IntKind.i64 j)), (1, 4, Cont.cell (AV.int IntKind.i64 t)), (1, 5, Cont.top)], 25, 37⟩) (by kernel_rfl) (by kernel_rfl) ?_
      refine evC_seq ?_
      refine evC_go0 (dec := []) (ks := [(0, 0), (0, 3), (0, 4), (0, 5), (0, 15), (1, 0), (1, 1), (1, 2), (1, 3), (1, 4), (1, 5)]) (s' := ⟨[(0, 0, Cont.cell (AV.rs 5 n false (nO w))), (0, 3, Cont.cell (AV.ptr 1 0)), (0, 4, Cont.cell AV.nils), (0, 5, Cont.cell (AV.int IntKind.i64 0)), (0, 15, Cont.cell (AV.bool (bif decide ((↑n : Int) > 8) then true else !frm k u i j t))), (1, 0, Cont.cell (AV.int IntKind.i64 k)), (1, 1, Cont.cell (AV.int IntKind.i64 u)), (1, 2, Cont.cell (AV.int IntKind.i64 i)), (1, 3, Cont.cell (AV.int IntKind.i64 j)), (1, 4, Cont.cell (AV.int IntKind.i64 t)), (1, 5, Cont.top)], 89, 37⟩) (by kernel_rfl) (by kernel_rfl) ?_
      rw [e0]
      clear e0
      refine evC_if (q := !(decide (n ≤ 8) && fO (k, u, i, j, t))) (by kernel_rfl) (fun hc => ?_) (fun hc => ?_)
      · rw [(Bool.not_eq_true' _).mp hc]
        simp only [Bool.false_and, Bool.not_false, cond_true]
        refine evC_go0 (dec := []) (ks := [(0, 0), (0, 3), (0, 4), (0, 5), (1, 0), (1, 1), (1, 2), (1, 3), (1, 4), (1, 5)]) (s' := ⟨[(0, 0, Cont.cell (AV.rs 5 n false (nO w))), (0, 3, Cont.cell (AV.ptr 1 0)), (0, 4, Cont.cell AV.nils), (0, 5, Cont.cell (AV.int IntKind.i64 1)), (1, 0, Cont.cell (AV.int IntKind.i64 k)), (1, 1, Cont.cell (AV.int IntKind.i64 u)), (1, 2, Cont.cell (AV.int IntKind.i64 i)), (1, 3, Cont.cell (AV.int IntKind.i64 j)), (1, 4, Cont.cell (AV.int IntKind.i64 t)), (1, 5, Cont.top)], 105, 37⟩) (by kernel_rfl) (by kernel_rfl) ?_
        refine evC_wk _ (.nil 0 4 5 28 (fun _ => .nils) (Nat.le_of_ble_eq_true rfl) rfl) ?_
        refine evC_ret ?_
        refine then_ret ?_
        refine post_ret ?_
        refine ends_go [105] (AV.tup [AV.vs 1, AV.int IntKind.i64 1]) [(1, 0, Cont.vec 5 28 0 fun x => AV.nils)] rfl (by decide) rfl rfl (has_of _ rfl) rfl ⟨⟨_, rfl, ⟨rfl, rfl, rfl, fun _ _ => rfl⟩⟩, trivial⟩ ⟨⟨1, _, rfl, rfl, rfl, ⟨rfl, rfl, rfl, fun _ hi => absurd hi (Nat.not_lt_zero _)⟩⟩, trivial⟩ (kept_nil _)
      · have hb := (Bool.not_eq_false' _).mp hc
        rw [hb]
        simp only [Bool.true_and]
        clear hc
        have h8 : n ≤ 8 := by simp at hb; exact hb.1
        refine evC_skip ?_
        refine then_normal ?_
        refine evC_seq ?_
        refine evC_go0 (dec := []) (ks := [(0, 0), (0, 3), (0, 4), (0, 5), (0, 16), (0, 17), (0, 18), (1, 0), (1, 1), (1, 2), (1, 3), (1, 4), (1, 5)]) (s' := ⟨[(0, 0, Cont.cell (AV.rs 5 n false (nO w))), (0, 3, Cont.cell (AV.ptr 1 0)), (0, 4, Cont.cell AV.nils), (0, 5, Cont.cell (AV.int IntKind.i64 0)), (0, 16, Cont.cell (AV.rs 5 n false (nO w))), (0, 17, Cont.cell (AV.int IntKind.i64 (↑n : Int))), (0, 18, Cont.cell (AV.int IntKind.i64 0)), (1, 0, Cont.cell (AV.int IntKind.i64 k)), (1, 1, Cont.cell (AV.int IntKind.i64 u)), (1, 2, Cont.cell (AV.int IntKind.i64 i)), (1, 3, Cont.cell (AV.int IntKind.i64 j)), (1, 4, Cont.cell (AV.int IntKind.i64 t)), (1, 5, Cont.top)], 113, 37⟩) (by kernel_rfl) (by kernel_rfl) ?_
        refine evC_block ?_
        refine evC_loop (ι := { i : Nat // i ≤ n ∧ ∀ j, j < i → fO (w j) = true }) (fun x => ⟨[(0, 0, Cont.cell (AV.rs 5 n false (nO w))), (0, 3, Cont.cell (AV.ptr 1 0)), (0, 4, Cont.cell AV.nils), (0, 5, Cont.cell (AV.int IntKind.i64 0)), (0, 16, Cont.cell (AV.rs 5 n false (nO w))), (0, 17, Cont.cell (AV.int IntKind.i64 (↑n : Int))), (0, 18, .cell (.int .i64 (x.1 : Nat))), (1, 0, Cont.cell (AV.int IntKind.i64 k)), (1, 1, Cont.cell (AV.int IntKind.i64 u)), (1, 2, Cont.cell (AV.int IntKind.i64 i)), (1, 3, Cont.cell (AV.int IntKind.i64 j)), (1, 4, Cont.cell (AV.int IntKind.i64 t)), (1, 5, Cont.top)], 2, 37⟩) (fun x => n - x.1) ⟨0, Nat.zero_le _, fun j hj => absurd hj (Nat.not_lt_zero j)⟩ (wk_go [1] rfl (by decide) rfl rfl ⟨⟨_, rfl, rfl⟩, ⟨_, rfl, rfl⟩, ⟨_, rfl, rfl⟩, ⟨_, rfl, rfl⟩, ⟨_, rfl, rfl⟩, ⟨_, rfl, rfl⟩, ⟨_, rfl, rfl⟩, ⟨_, rfl, rfl⟩, ⟨_, rfl, rfl⟩, ⟨_, rfl, rfl⟩, ⟨_, rfl, rfl⟩, ⟨_, rfl, rfl⟩, ⟨_, rfl, trivial⟩, trivial⟩) ?_
        rintro ⟨p, hp, hj⟩
        refine evC_go0 (dec := []) (ks := [(0, 0), (0, 3), (0, 4), (0, 5), (0, 16), (0, 17), (0, 18), (0, 19), (1, 0), (1, 1), (1, 2), (1, 3), (1, 4), (1, 5)]) (s' := ⟨[(0, 0, Cont.cell (AV.rs 5 n false (nO w))), (0, 3, Cont.cell (AV.ptr 1 0)), (0, 4, Cont.cell AV.nils), (0, 5, Cont.cell (AV.int IntKind.i64 0)), (0, 16, Cont.cell (AV.rs 5 n false (nO w))), (0, 17, Cont.cell (AV.int IntKind.i64 (↑n : Int))), (0, 18, Cont.cell (AV.int IntKind.i64 (↑p : Int))), (0, 19, Cont.cell (AV.bool (decide ((↑p : Int) < (↑n : Int))))), (1, 0, Cont.cell (AV.int IntKind.i64 k)), (1, 1, Cont.cell (AV.int IntKind.i64 u)), (1, 2, Cont.cell (AV.int IntKind.i64 i)), (1, 3, Cont.cell (AV.int IntKind.i64 j)), (1, 4, Cont.cell (AV.int IntKind.i64 t)), (1, 5, Cont.top)], 10, 37⟩) (by kernel_rfl) (by kernel_rfl) ?_
        refine evC_seq ?_
        refine evC_if (q := decide ((↑p : Int) < (↑n : Int))) (by kernel_rfl) (fun hc => ?_) (fun hc => ?_)
        · have hlt : p < n := by have := of_decide_eq_true hc; omega
          clear hc
          refine evC_skip ?_
          refine then_normal ?_
          refine evC_seq ?_
          refine evC_block ?_
          refine evC_go (dec := []) (ks := [(0, 0), (0, 3), (0, 4), (0, 5), (0, 7), (0, 16), (0, 17), (0, 18), (1, 0), (1, 1), (1, 2), (1, 3), (1, 4), (1, 5), (26, 0), (26, 1), (26, 2), (26, 3), (26, 4), (26, 5)]) (ps := [(0 : Int) ≤ (↑p : Int), (↑p : Int) < (↑n : Int), (5 : Nat) = (5 : Nat)]) (s' := ⟨[(0, 0, Cont.cell (AV.rs 5 n false (nO w))), (0, 3, Cont.cell (AV.ptr 1 0)), (0, 4, Cont.cell AV.nils), (0, 5, Cont.cell (AV.int IntKind.i64 0)), (0, 7, Cont.cell (AV.ptr 26 0)), (0, 16, Cont.cell (AV.rs 5 n false (nO w))), (0, 17, Cont.cell (AV.int IntKind.i64 (↑n : Int))), (0, 18, Cont.cell (AV.int IntKind.i64 (↑p : Int))), (1, 0, Cont.cell (AV.int IntKind.i64 k)), (1, 1, Cont.cell (AV.int IntKind.i64 u)), (1, 2, Cont.cell (AV.int IntKind.i64 i)), (1, 3, Cont.cell (AV.int IntKind.i64 j)), (1, 4, Cont.cell (AV.int IntKind.i64 t)), (1, 5, Cont.top), (26, 0, Cont.cell (AV.int IntKind.i64 (Prod.fst (w p)))), (26, 1, Cont.cell (AV.int IntKind.i64 (Prod.fst (Prod.snd (w p))))), (26, 2, Cont.cell (AV.int IntKind.i64 (Prod.fst (Prod.snd (Prod.snd (w p)))))), (26, 3, Cont.cell (AV.int IntKind.i64 (Prod.fst (Prod.snd (Prod.snd (Prod.snd (w p))))))), (26, 4, Cont.cell (AV.int IntKind.i64 (Prod.snd (Prod.snd (Prod.snd (Prod.snd (w p))))))), (26, 5, Cont.top)], 42, 37⟩) (by kernel_rfl) (by kernel_rfl) ?_ ?_
          · (simp only [All]; (repeat' apply And.intro) <;> (try intro _) <;> (try intro _) <;> (repeat' apply And.intro) <;> (try intro _) <;> (try intro _) <;> first | trivial | assumption | exact .inr trivial | exact .inr rfl | omega | rfl | exact ⟨_, rfl, rfl⟩ | exact ⟨rfl, rfl⟩ | exact ⟨fun _ => rfl, fun _ => rfl⟩ | (unfold maxLen; omega) | (unfold i64R; first | omega | decide) | decide)
          refine evC_go0 (dec := []) (ks := [(0, 0), (0, 3), (0, 4), (0, 5), (0, 16), (0, 17), (0, 18), (0, 24), (1, 0), (1, 1), (1, 2), (1, 3), (1, 4), (1, 5)]) (s' := ⟨[(0, 0, Cont.cell (AV.rs 5 n false (nO w))), (0, 3, Cont.cell (AV.ptr 1 0)), (0, 4, Cont.cell AV.nils), (0, 5, Cont.cell (AV.int IntKind.i64 0)), (0, 16, Cont.cell (AV.rs 5 n false (nO w))), (0, 17, Cont.cell (AV.int IntKind.i64 (↑n : Int))), (0, 18, Cont.cell (AV.int IntKind.i64 (↑p : Int))), (0, 24, Cont.cell (AV.bool !frm (Prod.fst (w p)) (Prod.fst (Prod.snd (w p))) (Prod.fst (Prod.snd (Prod.snd (w p)))) (Prod.fst (Prod.snd (Prod.snd (Prod.snd (w p))))) (Prod.snd (Prod.snd (Prod.snd (Prod.snd (w p))))))), (1, 0, Cont.cell (AV.int IntKind.i64 k)), (1, 1, Cont.cell (AV.int IntKind.i64 u)), (1, 2, Cont.cell (AV.int IntKind.i64 i)), (1, 3, Cont.cell (AV.int IntKind.i64 j)), (1, 4, Cont.cell (AV.int IntKind.i64 t)), (1, 5, Cont.top)], 66, 37⟩) (by kernel_rfl) (by kernel_rfl) ?_
          refine evC_if (q := !frm (Prod.fst (w p)) (Prod.fst (Prod.snd (w p))) (Prod.fst (Prod.snd (Prod.snd (w p)))) (Prod.fst (Prod.snd (Prod.snd (Prod.snd (w p))))) (Prod.snd (Prod.snd (Prod.snd (Prod.snd (w p)))))) (by kernel_rfl) (fun hc => ?_) (fun hc => ?_)
          · have hf : fO (w p) = false := (Bool.not_eq_true' _).mp hc
            have : allO w n = false := all_false (p := fun i => fO (w i)) hlt hf
            rw [this]
            simp only [Bool.not_false, cond_true]
            refine evC_go0 (dec := []) (ks := [(0, 0), (0, 3), (0, 4), (0, 5), (0, 16), (0, 17), (0, 18), (1, 0), (1, 1), (1, 2), (1, 3), (1, 4), (1, 5)]) (s' := ⟨[(0, 0, Cont.cell (AV.rs 5 n false (nO w))), (0, 3, Cont.cell (AV.ptr 1 0)), (0, 4, Cont.cell AV.nils), (0, 5, Cont.cell (AV.int IntKind.i64 1)), (0, 16, Cont.cell (AV.rs 5 n false (nO w))), (0, 17, Cont.cell (AV.int IntKind.i64 (↑n : Int))), (0, 18, Cont.cell (AV.int IntKind.i64 (↑p : Int))), (1, 0, Cont.cell (AV.int IntKind.i64 k)), (1, 1, Cont.cell (AV.int IntKind.i64 u)), (1, 2, Cont.cell (AV.int IntKind.i64 i)), (1, 3, Cont.cell (AV.int IntKind.i64 j)), (1, 4, Cont.cell (AV.int IntKind.i64 t)), (1, 5, Cont.top)], 82, 37⟩) (by kernel_rfl) (by kernel_rfl) ?_
            refine evC_wk _ (.nil 0 4 5 28 (fun _ => .nils) (Nat.le_of_ble_eq_true rfl) rfl) ?_
            refine evC_ret ?_
            refine block_ret ?_
            refine then_ret ?_
            refine round_ret ?_
            refine block_ret ?_
            refine then_ret ?_
            refine post_ret ?_
            refine ends_go [82] (AV.tup [AV.vs 1, AV.int IntKind.i64 1]) [(1, 0, Cont.vec 5 28 0 fun x => AV.nils)] rfl (by decide) rfl rfl (has_of _ rfl) rfl ⟨⟨_, rfl, ⟨rfl, rfl, rfl, fun _ _ => rfl⟩⟩, trivial⟩ ⟨⟨1, _, rfl, rfl, rfl, ⟨rfl, rfl, rfl, fun _ hi => absurd hi (Nat.not_lt_zero _)⟩⟩, trivial⟩ (kept_nil _)
          · have hf : fO (w p) = true := (Bool.not_eq_false' _).mp hc
            clear hc
            refine evC_skip ?_
            refine block_normal ?_
            refine then_normal ?_
            refine evC_goL0 (dec := []) (ks := [(0, 0), (0, 3), (0, 4), (0, 5), (0, 16), (0, 17), (0, 18), (1, 0), (1, 1), (1, 2), (1, 3), (1, 4), (1, 5)]) (s' := ⟨[(0, 0, Cont.cell (AV.rs 5 n false (nO w))), (0, 3, Cont.cell (AV.ptr 1 0)), (0, 4, Cont.cell AV.nils), (0, 5, Cont.cell (AV.int IntKind.i64 0)), (0, 16, Cont.cell (AV.rs 5 n false (nO w))), (0, 17, Cont.cell (AV.int IntKind.i64 (↑n : Int))), (0, 18, Cont.cell (AV.int IntKind.i64 (IntKind.i64.wrap ((↑p : Int) + 1)))), (1, 0, Cont.cell (AV.int IntKind.i64 k)), (1, 1, Cont.cell (AV.int IntKind.i64 u)), (1, 2, Cont.cell (AV.int IntKind.i64 i)), (1, 3, Cont.cell (AV.int IntKind.i64 j)), (1, 4, Cont.cell (AV.int IntKind.i64 t)), (1, 5, Cont.top)], 82, 37⟩) (by kernel_rfl) (by kernel_rfl) ?_
            rw [wrap_add_one hlt (by omega)]
            refine round_normal (⟨p + 1, by omega, fun j hj' => ?_⟩) (wk_go [1] rfl (by decide) rfl rfl ⟨⟨_, rfl, rfl⟩, ⟨_, rfl, rfl⟩, ⟨_, rfl, rfl⟩, ⟨_, rfl, rfl⟩, ⟨_, rfl, rfl⟩, ⟨_, rfl, rfl⟩, ⟨_, rfl, rfl⟩, ⟨_, rfl, rfl⟩, ⟨_, rfl, rfl⟩, ⟨_, rfl, rfl⟩, ⟨_, rfl, rfl⟩, ⟨_, rfl, rfl⟩, ⟨_, rfl, trivial⟩, trivial⟩) ?_
            · rcases Nat.lt_or_ge j p with h | h
              · exact hj j h
              · have : j = p := by omega
                subst this; exact hf
            · show n - (p + 1) < n - p; omega
        · have hlt : p = n := by have := of_decide_eq_false hc; omega
          subst hlt
          clear hc
          have : allO w p = true := all_true (p := fun i => fO (w i)) hj
          rw [this]
          simp only [Bool.not_true, cond_false]
          refine evC_exit ?_
          refine then_exit ?_
          refine round_exit ?_
          refine block_exit ?_
          refine then_normal ?_
          refine evC_seq ?_
          refine evC_go0 (dec := []) (ks := [(0, 0), (0, 3), (0, 4), (0, 5), (0, 28), (1, 0), (1, 1), (1, 2), (1, 3), (1, 4), (1, 5)]) (s' := ⟨[(0, 0, Cont.cell (AV.rs 5 p false (nO w))), (0, 3, Cont.cell (AV.ptr 1 0)), (0, 4, Cont.cell AV.nils), (0, 5, Cont.cell (AV.int IntKind.i64 0)), (0, 28, Cont.cell (AV.bool (k == 0))), (1, 0, Cont.cell (AV.int IntKind.i64 k)), (1, 1, Cont.cell (AV.int IntKind.i64 u)), (1, 2, Cont.cell (AV.int IntKind.i64 i)), (1, 3, Cont.cell (AV.int IntKind.i64 j)), (1, 4, Cont.cell (AV.int IntKind.i64 t)), (1, 5, Cont.top)], 34, 37⟩) (by kernel_rfl) (by kernel_rfl) ?_
          refine evC_if (q := k == 0) (by kernel_rfl) (fun hc => ?_) (fun hc => ?_)
          · rw [hc]
            simp only [cond_true]
            refine evC_go0 (dec := []) (ks := [(0, 0), (0, 3), (0, 4), (0, 5), (1, 0), (1, 1), (1, 2), (1, 3), (1, 4), (1, 5)]) (s' := ⟨[(0, 0, Cont.cell (AV.rs 5 p false (nO w))), (0, 3, Cont.cell (AV.ptr 1 0)), (0, 4, Cont.cell AV.nils), (0, 5, Cont.cell (AV.int IntKind.i64 0)), (1, 0, Cont.cell (AV.int IntKind.i64 k)), (1, 1, Cont.cell (AV.int IntKind.i64 u)), (1, 2, Cont.cell (AV.int IntKind.i64 i)), (1, 3, Cont.cell (AV.int IntKind.i64 j)), (1, 4, Cont.cell (AV.int IntKind.i64 t)), (1, 5, Cont.top)], 50, 37⟩) (by kernel_rfl) (by kernel_rfl) ?_
            refine evC_wk _ (.nil 0 4 5 28 (fun _ => .nils) (Nat.le_of_ble_eq_true rfl) rfl) ?_
            refine evC_ret ?_
            refine then_ret ?_
            refine post_ret ?_
            refine ends_go [50] (AV.tup [AV.vs 1, AV.int IntKind.i64 0]) [(1, 0, Cont.vec 5 28 0 fun x => AV.nils)] rfl (by decide) rfl rfl (has_of _ rfl) rfl ⟨⟨_, rfl, ⟨rfl, rfl, rfl, fun _ _ => rfl⟩⟩, trivial⟩ ⟨⟨1, _, rfl, rfl, rfl, ⟨rfl, rfl, rfl, fun _ hi => absurd hi (Nat.not_lt_zero _)⟩⟩, trivial⟩ (kept_nil _)
          · rw [hc]
            clear hc
            simp only [cond_false]
            have e8 : ((p : Int) == 8) = (p == 8) := by
              by_cases h : p = 8
              · subst h; rfl
              · have h7 : ¬ (p : Int) = 8 := by omega
                rw [beq_false_of_ne h7, beq_false_of_ne h]
            refine evC_skip ?_
            refine then_normal ?_
            refine evC_seq ?_
            refine evC_go0 (dec := []) (ks := [(0, 0), (0, 3), (0, 4), (0, 5), (0, 31), (1, 0), (1, 1), (1, 2), (1, 3), (1, 4), (1, 5)]) (s' := ⟨[(0, 0, Cont.cell (AV.rs 5 p false (nO w))), (0, 3, Cont.cell (AV.ptr 1 0)), (0, 4, Cont.cell AV.nils), (0, 5, Cont.cell (AV.int IntKind.i64 0)), (0, 31, Cont.cell (AV.bool ((↑p : Int) == 8))), (1, 0, Cont.cell (AV.int IntKind.i64 k)), (1, 1, Cont.cell (AV.int IntKind.i64 u)), (1, 2, Cont.cell (AV.int IntKind.i64 i)), (1, 3, Cont.cell (AV.int IntKind.i64 j)), (1, 4, Cont.cell (AV.int IntKind.i64 t)), (1, 5, Cont.top)], 58, 37⟩) (by kernel_rfl) (by kernel_rfl) ?_
            rw [e8]
            refine evC_if (q := p == 8) (by kernel_rfl) (fun hc => ?_) (fun hc => ?_)
            · rw [hc]
              simp only [cond_true]
              refine evC_go0 (dec := []) (ks := [(0, 0), (0, 3), (0, 4), (0, 5), (1, 0), (1, 1), (1, 2), (1, 3), (1, 4), (1, 5)]) (s' := ⟨[(0, 0, Cont.cell (AV.rs 5 p false (nO w))), (0, 3, Cont.cell (AV.ptr 1 0)), (0, 4, Cont.cell AV.nils), (0, 5, Cont.cell (AV.int IntKind.i64 5)), (1, 0, Cont.cell (AV.int IntKind.i64 k)), (1, 1, Cont.cell (AV.int IntKind.i64 u)), (1, 2, Cont.cell (AV.int IntKind.i64 i)), (1, 3, Cont.cell (AV.int IntKind.i64 j)), (1, 4, Cont.cell (AV.int IntKind.i64 t)), (1, 5, Cont.top)], 74, 37⟩) (by kernel_rfl) (by kernel_rfl) ?_
              refine evC_wk _ (.nil 0 4 5 28 (fun _ => .nils) (Nat.le_of_ble_eq_true rfl) rfl) ?_
              refine evC_ret ?_
              refine then_ret ?_
              refine post_ret ?_
              refine ends_go [74] (AV.tup [AV.vs 1, AV.int IntKind.i64 5]) [(1, 0, Cont.vec 5 28 0 fun x => AV.nils)] rfl (by decide) rfl rfl (has_of _ rfl) rfl ⟨⟨_, rfl, ⟨rfl, rfl, rfl, fun _ _ => rfl⟩⟩, trivial⟩ ⟨⟨1, _, rfl, rfl, rfl, ⟨rfl, rfl, rfl, fun _ hi => absurd hi (Nat.not_lt_zero _)⟩⟩, trivial⟩ (kept_nil _)
            · rw [hc]
              clear hc e8
              simp only [cond_false]
              refine evC_skip ?_
              refine then_normal ?_
              refine evC_go (dec := []) (ks := [(0, 4), (0, 5), (90, 0)]) (ps := [p * (40 : Nat) ≤ (140737488355328 : Nat), p ≤ maxLen, p = (0 : Nat) ∨ (5 : Nat) = (5 : Nat), (p + (1 : Nat)) * (40 : Nat) ≤ (140737488355328 : Nat), p + (1 : Nat) ≤ maxLen, (1 : Nat) = (0 : Nat) ∨ (5 : Nat) = (5 : Nat), (5 : Nat) = (5 : Nat), (28 : Nat) = (28 : Nat)]) (s' := ⟨[(0, 4, Cont.cell (AV.vs 90)), (0, 5, Cont.cell (AV.int IntKind.i64 0)), (90, 0, Cont.vec 5 28 (p + 1) (catF p (nO w) (pget [(0, AV.agg [AV.int IntKind.i64 k, AV.int IntKind.i64 u, AV.int IntKind.i64 i, AV.int IntKind.i64 j, AV.int IntKind.i64 t])])))], 114, 37⟩) (by kernel_rfl) (by kernel_rfl) ?_ ?_
              · (simp only [All]; (repeat' apply And.intro) <;> (try intro _) <;> (try intro _) <;> (repeat' apply And.intro) <;> (try intro _) <;> (try intro _) <;> first | trivial | assumption | exact .inr trivial | exact .inr rfl | omega | rfl | exact ⟨_, rfl, rfl⟩ | exact ⟨rfl, rfl⟩ | exact ⟨fun _ => rfl, fun _ => rfl⟩ | (unfold maxLen; omega) | (unfold i64R; first | omega | decide) | decide)
              refine evC_wk (s' := ⟨[(0, 4, Cont.cell (AV.vs 1)), (0, 5, Cont.cell (AV.int IntKind.i64 0)), (1, 0, .vec 5 28 (p + 1) (nO w2))], 2, 37⟩) _ (wk_go [90] rfl (by decide) rfl rfl ⟨⟨_, rfl, rfl⟩, ⟨_, rfl, rfl⟩, ⟨_, rfl, ?_⟩, trivial⟩) ?_
              · refine ⟨rfl, rfl, rfl, fun y hy => ?_⟩
                subst hW
                rcases Nat.lt_or_ge y p with h | h
                · have e : pushW p w (k, u, i, j, t) y = w y := by unfold pushW; rw [blt_yes h]; rfl
                  show _ = nO (pushW p w (k, u, i, j, t)) y
                  unfold nO
                  rw [e]
                  exact catF_lt h
                · have : y = p := by have : y < p + 1 := hy; omega
                  subst this
                  have e : pushW y w (k, u, i, j, t) y = (k, u, i, j, t) := by unfold pushW; rw [blt_no (Nat.lt_irrefl y)]; rfl
                  show _ = nO (pushW y w (k, u, i, j, t)) y
                  unfold nO
                  rw [e]
                  rw [catF_ge (Nat.le_refl _), Nat.sub_self]
                  rfl
              refine evC_ret ?_
              refine post_ret ?_
              refine ends_go [1] (AV.tup [AV.vs 1, AV.int IntKind.i64 0]) [(1, 0, Cont.vec 5 28 (p + 1) (nO w2))] rfl (by decide) rfl rfl (has_of _ rfl) rfl ⟨⟨_, rfl, ⟨rfl, rfl, rfl, fun _ _ => rfl⟩⟩, trivial⟩ ⟨⟨1, _, rfl, rfl, rfl, ⟨rfl, rfl, rfl, fun _ _ => ⟨has_of _ rfl, rfl⟩⟩⟩, trivial⟩ (kept_nil _)
    · cases e
  · cases e
end Go.Eng.S22
