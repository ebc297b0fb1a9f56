/- Seat 20: the law YardCosts, walked: what it computes, for every argument that its contract names. -/
import Derived.Test.YtbknbkbimhjlnaaEngU
import Derived.Test.YtbknbkbimhjlnaaS20J
set_option linter.unusedSimpArgs false
set_option linter.unusedVariables false
namespace Go.Eng.S20
open Go.Proofs Go.IntWalk
set_option maxRecDepth 10000

theorem part_eq {c d n : Int} (hc : 0 ≤ c ∧ c ≤ 65535) (hd : 0 ≤ d ∧ d ≤ 65535) (hn : 1 ≤ n) : partF c d n = c * d / n := by
  have hp : 0 ≤ c * d ∧ c * d ≤ 65535 * 65535 := ⟨Int.mul_nonneg hc.1 hd.1, Int.mul_le_mul hc.2 hd.2 hd.1 (by omega)⟩
  have hw : IntKind.i64.wrap (c * d) = c * d := i64_in _ (by omega)
  have hq : 0 ≤ c * d / n ∧ c * d / n ≤ c * d := ⟨Int.ediv_nonneg hp.1 (by omega), Int.ediv_le_self _ hp.1⟩
  simp only [partF, hw]
  rw [Int.tdiv_eq_ediv_of_nonneg hp.1]
  exact i64_in _ (by omega)
theorem part_mono {c d e n : Int} (hc : 0 ≤ c) (hde : d ≤ e) (hn : 1 ≤ n) : c * d / n ≤ c * e / n :=
  Int.ediv_le_ediv (by omega) (Int.mul_le_mul_of_nonneg_left hde hc)
theorem part_bound {c d n : Int} (hc : 0 ≤ c ∧ c ≤ 65535) (hd : 0 ≤ d ∧ d ≤ n) (hn : 1 ≤ n) : 0 ≤ c * d / n ∧ c * d / n ≤ c := by
  refine ⟨Int.ediv_nonneg (Int.mul_nonneg hc.1 hd.1) (by omega), ?_⟩
  have h1 := part_mono hc.1 hd.2 hn
  rwa [Int.mul_ediv_cancel _ (by omega)] at h1

def sYardCosts : Spec := fun args hr _ => match args with
  | [.agg [.int .i64 m, .int .i64 en, .int .i64 n, .int .i64 d], v] => match sl 1 hr v with
    | some (k, f, rd) => some ⟨[(∀ i, i < k → f i = .int .i64 (iv (f i))) ∧ k < 2 ^ 63], .bool true, rd, []⟩
    | none => none
  | _ => none
theorem yardCosts_ok : SpecOK Try.prog 6 sYardCosts := by
  refine spec_own (by kernel_rfl) T_ok (sget_cons may_ok (sget_cons next_ok (sget_cons work_ok (sget_cons take_ok (sget_cons awake_ok sget_nil))))) Try.func6 rfl rfl fun args hr nb out e => ?_
  unfold sYardCosts at e
  split at e
  · rename_i m en n d0 v
    split at e
    · rename_i k f rd hsl
      injection e with e; subst e
      refine ⟨sl_rd hsl, false, [.agg [.int .i64 m, .int .i64 en, .int .i64 n, .int .i64 d0], .rs 1 k false fun i => .int .i64 (iv (f i))], rfl, fun hs => ?_⟩
      obtain ⟨hf, hk⟩ := hs _ List.mem_cons_self
      refine ⟨.cons _ _ _ _ (.same _ _ (flat_of _ rfl).has) (.cons _ _ _ _ (.slice _ _ _ _ _ hsl (fun _ h => h) _ fun i hi => ⟨hf i hi, .int _ _⟩) .nil), ?_⟩
      refine evC_go0 (dec := []) (ks := [(0, 1), (0, 2), (0, 4), (1, 0), (1, 1), (1, 2), (1, 3)]) (s' := ⟨[(0, 1, Cont.cell (AV.rs 1 k false fun i => AV.int IntKind.i64 (iv (f i)))), (0, 2, Cont.cell (AV.ptr 1 0)), (0, 4, Cont.cell (AV.bool false)), (1, 0, Cont.cell (AV.int IntKind.i64 m)), (1, 1, Cont.cell (AV.int IntKind.i64 en)), (1, 2, Cont.cell (AV.int IntKind.i64 n)), (1, 3, Cont.cell (AV.int IntKind.i64 d0))], 17, 107⟩) (by kernel_rfl) (by kernel_rfl) ?_
      refine evC_go0 (dec := []) (ks := [(0, 1), (0, 2), (0, 4), (1, 0), (1, 1), (1, 2), (1, 3)]) (s' := ⟨[(0, 1, Cont.cell (AV.rs 1 k false fun i => AV.int IntKind.i64 (iv (f i)))), (0, 2, Cont.cell (AV.ptr 1 0)), (0, 4, Cont.cell (AV.bool false)), (1, 0, Cont.cell (AV.int IntKind.i64 m)), (1, 1, Cont.cell (AV.int IntKind.i64 en)), (1, 2, Cont.cell (AV.int IntKind.i64 n)), (1, 3, Cont.cell (AV.int IntKind.i64 0))], 33, 107⟩) (by kernel_rfl) (by kernel_rfl) ?_
      refine evC_seq ?_
      refine evC_go0 (dec := []) (ks := [(0, 1), (0, 2), (0, 4), (0, 17), (1, 0), (1, 1), (1, 2), (1, 3)]) (s' := ⟨[(0, 1, Cont.cell (AV.rs 1 k false fun i => AV.int IntKind.i64 (iv (f i)))), (0, 2, Cont.cell (AV.ptr 1 0)), (0, 4, Cont.cell (AV.bool false)), (0, 17, Cont.cell (AV.bool !mayF m en n 0)), (1, 0, Cont.cell (AV.int IntKind.i64 m)), (1, 1, Cont.cell (AV.int IntKind.i64 en)), (1, 2, Cont.cell (AV.int IntKind.i64 n)), (1, 3, Cont.cell (AV.int IntKind.i64 0))], 57, 107⟩) (by kernel_rfl) (by kernel_rfl) ?_
      refine evC_if (q := !mayF m en n 0) (by kernel_rfl) (fun hc => ?_) (fun hc => ?_)
      · refine evC_go0 (dec := []) (ks := [(0, 1), (0, 2), (0, 4), (1, 0), (1, 1), (1, 2), (1, 3)]) (s' := ⟨[(0, 1, Cont.cell (AV.rs 1 k false fun i => AV.int IntKind.i64 (iv (f i)))), (0, 2, Cont.cell (AV.ptr 1 0)), (0, 4, Cont.cell (AV.bool true)), (1, 0, Cont.cell (AV.int IntKind.i64 m)), (1, 1, Cont.cell (AV.int IntKind.i64 en)), (1, 2, Cont.cell (AV.int IntKind.i64 n)), (1, 3, Cont.cell (AV.int IntKind.i64 0))], 73, 107⟩) (by kernel_rfl) (by kernel_rfl) ?_
        refine evC_ret ?_
        refine then_ret ?_
        refine post_ret ?_
        refine ends_flat (vs := [AV.bool true]) (Nat.zero_lt_succ _) (by kernel_rfl) (flat_of _ (by kernel_rfl)) rfl ?_
        rfl
      · have hm : mayF m en n 0 = true := by simpa using hc
        clear hc
        have hb := hm
        simp [mayF, inR] at hb
        refine evC_skip ?_
        refine then_normal ?_
        refine evC_go0 (dec := []) (ks := [(0, 1), (0, 2), (0, 4), (0, 5), (1, 0), (1, 1), (1, 2), (1, 3), (65, 0), (65, 1)]) (s' := ⟨[(0, 1, Cont.cell (AV.rs 1 k false fun i => AV.int IntKind.i64 (iv (f i)))), (0, 2, Cont.cell (AV.ptr 1 0)), (0, 4, Cont.cell (AV.bool false)), (0, 5, Cont.cell (AV.ptr 65 0)), (1, 0, Cont.cell (AV.int IntKind.i64 m)), (1, 1, Cont.cell (AV.int IntKind.i64 en)), (1, 2, Cont.cell (AV.int IntKind.i64 n)), (1, 3, Cont.cell (AV.int IntKind.i64 0)), (65, 0, Cont.cell (AV.int IntKind.i64 0)), (65, 1, Cont.cell (AV.int IntKind.i64 0))], 81, 107⟩) (by kernel_rfl) (by kernel_rfl) ?_
        refine evC_seq ?_
        refine evC_go0 (dec := []) (ks := [(0, 1), (0, 2), (0, 4), (0, 5), (0, 6), (1, 0), (1, 1), (1, 2), (1, 3), (65, 0), (65, 1)]) (s' := ⟨[(0, 1, Cont.cell (AV.rs 1 k false fun i => AV.int IntKind.i64 (iv (f i)))), (0, 2, Cont.cell (AV.ptr 1 0)), (0, 4, Cont.cell (AV.bool false)), (0, 5, Cont.cell (AV.ptr 65 0)), (0, 6, Cont.cell (AV.int IntKind.i64 0)), (1, 0, Cont.cell (AV.int IntKind.i64 m)), (1, 1, Cont.cell (AV.int IntKind.i64 en)), (1, 2, Cont.cell (AV.int IntKind.i64 n)), (1, 3, Cont.cell (AV.int IntKind.i64 0)), (65, 0, Cont.cell (AV.int IntKind.i64 0)), (65, 1, Cont.cell (AV.int IntKind.i64 0))], 89, 107⟩) (by kernel_rfl) (by kernel_rfl) ?_
        refine evC_block ?_
        refine evC_loop (ι := { x : Nat × Int // x.1 ≤ k ∧ 0 ≤ x.2 ∧ x.2 ≤ n }) (fun x => ⟨[(0, 1, .cell (.rs 1 k false fun i => .int .i64 (iv (f i)))), (0, 2, .cell (.ptr 1 0)), (0, 4, .cell (.bool false)), (0, 5, .cell (.ptr 2 0)), (0, 6, .cell (.int .i64 (x.1.1 : Nat))),
          (1, 0, .cell (.int .i64 m)), (1, 1, .cell (.int .i64 en)), (1, 2, .cell (.int .i64 n)), (1, 3, .cell (.int .i64 x.1.2)), (2, 0, .cell (.int .i64 (m * x.1.2 / n))), (2, 1, .cell (.int .i64 (en * x.1.2 / n)))], 3, 107⟩)
          (fun x => k - x.1.1) ⟨(0, 0), Nat.zero_le _, by omega, by omega⟩ ?_ ?_
        · have e1 : m * 0 / n = 0 := by simp
          have e2 : en * 0 / n = 0 := by simp
          refine wk_go [1, 65] rfl (by decide) rfl rfl ⟨⟨_, rfl, rfl⟩, ⟨_, rfl, rfl⟩, ⟨_, rfl, rfl⟩, ⟨_, rfl, rfl⟩, ⟨_, rfl, rfl⟩, ⟨_, rfl, rfl⟩, ⟨_, rfl, rfl⟩, ⟨_, rfl, rfl⟩, ⟨_, rfl, rfl⟩, ⟨_, rfl, ?_⟩, ⟨_, rfl, ?_⟩, trivial⟩
          · show AV.int .i64 0 = AV.int .i64 (m * 0 / n)
            rw [e1]
          · show AV.int .i64 0 = AV.int .i64 (en * 0 / n)
            rw [e2]
        · rintro ⟨⟨i, d⟩, hi, hd0, hdn⟩
          simp only at hi hd0 hdn
          have hmd : mayF m en n d = true := by simp [mayF, inR]; omega
          refine evC_seq ?_
          refine evC_go0 (dec := []) (ks := [(0, 1), (0, 2), (0, 4), (0, 5), (0, 6), (0, 27), (1, 0), (1, 1), (1, 2), (1, 3), (2, 0), (2, 1)]) (s' := ⟨[(0, 1, Cont.cell (AV.rs 1 k false fun i => AV.int IntKind.i64 (iv (f i)))), (0, 2, Cont.cell (AV.ptr 1 0)), (0, 4, Cont.cell (AV.bool false)), (0, 5, Cont.cell (AV.ptr 2 0)), (0, 6, Cont.cell (AV.int IntKind.i64 (↑i : Int))), (0, 27, Cont.cell (AV.bool (bif decide ((↑i : Int) < (↑k : Int)) then decide ((↑i : Int) < 60) else false))), (1, 0, Cont.cell (AV.int IntKind.i64 m)), (1, 1, Cont.cell (AV.int IntKind.i64 en)), (1, 2, Cont.cell (AV.int IntKind.i64 n)), (1, 3, Cont.cell (AV.int IntKind.i64 d)), (2, 0, Cont.cell (AV.int IntKind.i64 (m * d / n))), (2, 1, Cont.cell (AV.int IntKind.i64 (en * d / n)))], 67, 107⟩) (by kernel_rfl) (by kernel_rfl) ?_
          refine evC_if (q := bif decide ((↑i : Int) < (↑k : Int)) then decide ((↑i : Int) < 60) else false) (by kernel_rfl) (fun hc => ?_) (fun hc => ?_)
          · have hlt : i < k := by
              revert hc
              cases h1 : decide ((i : Int) < (k : Int)) with
              | false => simp
              | true => intro _; have := of_decide_eq_true h1; omega
            clear hc
            refine evC_skip ?_
            refine then_normal ?_
            refine evC_seq ?_
            refine evC_block ?_
            refine evC_go (dec := []) (ks := [(0, 1), (0, 2), (0, 4), (0, 5), (0, 6), (0, 7), (0, 8), (1, 0), (1, 1), (1, 2), (1, 3), (2, 0), (2, 1), (139, 0), (139, 1)]) (ps := [(0 : Int) ≤ (↑i : Int), (↑i : Int) < (↑k : Int), (1 : Nat) = (1 : Nat)]) (s' := ⟨[(0, 1, Cont.cell (AV.rs 1 k false fun i => AV.int IntKind.i64 (iv (f i)))), (0, 2, Cont.cell (AV.ptr 1 0)), (0, 4, Cont.cell (AV.bool false)), (0, 5, Cont.cell (AV.ptr 2 0)), (0, 6, Cont.cell (AV.int IntKind.i64 (↑i : Int))), (0, 7, Cont.cell (AV.ptr 139 0)), (0, 8, Cont.cell (AV.int IntKind.i64 (errF (okF m en n d (iv (f (Int.toNat (↑i : Int)))))))), (1, 0, Cont.cell (AV.int IntKind.i64 m)), (1, 1, Cont.cell (AV.int IntKind.i64 en)), (1, 2, Cont.cell (AV.int IntKind.i64 n)), (1, 3, Cont.cell (AV.int IntKind.i64 d)), (2, 0, Cont.cell (AV.int IntKind.i64 (m * d / n))), (2, 1, Cont.cell (AV.int IntKind.i64 (en * d / n))), (139, 0, Cont.cell (AV.int IntKind.i64 (nextF m n d (iv (f (Int.toNat (↑i : Int)))) (okF m en n d (iv (f (Int.toNat (↑i : Int)))))))), (139, 1, Cont.cell (AV.int IntKind.i64 (nextF en n d (iv (f (Int.toNat (↑i : Int)))) (okF m en n d (iv (f (Int.toNat (↑i : Int))))))))], 163, 107⟩) (by kernel_rfl) (by kernel_rfl) ?_ ?_
            · exact ⟨by omega, by omega, rfl⟩
            refine evC_go (dec := []) (ks := [(0, 1), (0, 2), (0, 4), (0, 5), (0, 6), (0, 7), (0, 8), (0, 9), (0, 10), (0, 11), (1, 0), (1, 1), (1, 2), (1, 3), (2, 0), (2, 1), (139, 0), (139, 1), (243, 0), (243, 1), (243, 2), (243, 3)]) (ps := [(0 : Int) ≤ (↑i : Int), (↑i : Int) < (↑k : Int), (1 : Nat) = (1 : Nat)]) (s' := ⟨[(0, 1, Cont.cell (AV.rs 1 k false fun i => AV.int IntKind.i64 (iv (f i)))), (0, 2, Cont.cell (AV.ptr 1 0)), (0, 4, Cont.cell (AV.bool false)), (0, 5, Cont.cell (AV.ptr 2 0)), (0, 6, Cont.cell (AV.int IntKind.i64 (↑i : Int))), (0, 7, Cont.cell (AV.ptr 139 0)), (0, 8, Cont.cell (AV.int IntKind.i64 (errF (okF m en n d (iv (f (Int.toNat (↑i : Int)))))))), (0, 9, Cont.cell (AV.ptr 243 0)), (0, 10, Cont.cell (AV.bool (bif wokF m en n d (iv (f (Int.toNat (↑i : Int)))) 65536 then doneF n d (iv (f (Int.toNat (↑i : Int)))) 65536 == n else false))), (0, 11, Cont.cell (AV.int IntKind.i64 (errF (wokF m en n d (iv (f (Int.toNat (↑i : Int)))) 65536)))), (1, 0, Cont.cell (AV.int IntKind.i64 m)), (1, 1, Cont.cell (AV.int IntKind.i64 en)), (1, 2, Cont.cell (AV.int IntKind.i64 n)), (1, 3, Cont.cell (AV.int IntKind.i64 d)), (2, 0, Cont.cell (AV.int IntKind.i64 (m * d / n))), (2, 1, Cont.cell (AV.int IntKind.i64 (en * d / n))), (139, 0, Cont.cell (AV.int IntKind.i64 (nextF m n d (iv (f (Int.toNat (↑i : Int)))) (okF m en n d (iv (f (Int.toNat (↑i : Int)))))))), (139, 1, Cont.cell (AV.int IntKind.i64 (nextF en n d (iv (f (Int.toNat (↑i : Int)))) (okF m en n d (iv (f (Int.toNat (↑i : Int)))))))), (243, 0, Cont.cell (AV.int IntKind.i64 (bif wokF m en n d (iv (f (Int.toNat (↑i : Int)))) 65536 then m else 0))), (243, 1, Cont.cell (AV.int IntKind.i64 (bif wokF m en n d (iv (f (Int.toNat (↑i : Int)))) 65536 then en else 0))), (243, 2, Cont.cell (AV.int IntKind.i64 (bif wokF m en n d (iv (f (Int.toNat (↑i : Int)))) 65536 then n else 0))), (243, 3, Cont.cell (AV.int IntKind.i64 (bif wokF m en n d (iv (f (Int.toNat (↑i : Int)))) 65536 then doneF n d (iv (f (Int.toNat (↑i : Int)))) 65536 else 0)))], 275, 107⟩) (by kernel_rfl) (by kernel_rfl) ?_ ?_
            · exact ⟨by omega, by omega, rfl⟩
            generalize iv (f (Int.toNat (i : Int))) = P
            have hw : wokF m en n d P 65536 = okF m en n d P := by simp [wokF]
            rw [hw]
            refine evC_seq ?_
            refine evC_go0 (dec := []) (ks := [(0, 1), (0, 2), (0, 4), (0, 5), (0, 6), (0, 7), (0, 8), (0, 9), (0, 10), (0, 51), (1, 0), (1, 1), (1, 2), (1, 3), (2, 0), (2, 1), (139, 0), (139, 1), (243, 0), (243, 1), (243, 2), (243, 3)]) (s' := ⟨[(0, 1, Cont.cell (AV.rs 1 k false fun i => AV.int IntKind.i64 (iv (f i)))), (0, 2, Cont.cell (AV.ptr 1 0)), (0, 4, Cont.cell (AV.bool false)), (0, 5, Cont.cell (AV.ptr 2 0)), (0, 6, Cont.cell (AV.int IntKind.i64 (↑i : Int))), (0, 7, Cont.cell (AV.ptr 139 0)), (0, 8, Cont.cell (AV.int IntKind.i64 (errF (okF m en n d P)))), (0, 9, Cont.cell (AV.ptr 243 0)), (0, 10, Cont.cell (AV.bool (bif okF m en n d P then doneF n d P 65536 == n else false))), (0, 51, Cont.cell (AV.bool (errF (okF m en n d P) != errF (okF m en n d P)))), (1, 0, Cont.cell (AV.int IntKind.i64 m)), (1, 1, Cont.cell (AV.int IntKind.i64 en)), (1, 2, Cont.cell (AV.int IntKind.i64 n)), (1, 3, Cont.cell (AV.int IntKind.i64 d)), (2, 0, Cont.cell (AV.int IntKind.i64 (m * d / n))), (2, 1, Cont.cell (AV.int IntKind.i64 (en * d / n))), (139, 0, Cont.cell (AV.int IntKind.i64 (nextF m n d P (okF m en n d P)))), (139, 1, Cont.cell (AV.int IntKind.i64 (nextF en n d P (okF m en n d P)))), (243, 0, Cont.cell (AV.int IntKind.i64 (bif okF m en n d P then m else 0))), (243, 1, Cont.cell (AV.int IntKind.i64 (bif okF m en n d P then en else 0))), (243, 2, Cont.cell (AV.int IntKind.i64 (bif okF m en n d P then n else 0))), (243, 3, Cont.cell (AV.int IntKind.i64 (bif okF m en n d P then doneF n d P 65536 else 0)))], 299, 107⟩) (by kernel_rfl) (by kernel_rfl) ?_
            refine evC_if (q := errF (okF m en n d P) != errF (okF m en n d P)) (by kernel_rfl) (fun hc => ?_) (fun hc => ?_)
            · simp at hc
            clear hc
            refine evC_skip ?_
            refine then_normal ?_
            refine evC_seq ?_
            refine evC_go0 (dec := []) (ks := [(0, 1), (0, 2), (0, 4), (0, 5), (0, 6), (0, 7), (0, 9), (0, 10), (0, 53), (1, 0), (1, 1), (1, 2), (1, 3), (2, 0), (2, 1), (139, 0), (139, 1), (243, 0), (243, 1), (243, 2), (243, 3)]) (s' := ⟨[(0, 1, Cont.cell (AV.rs 1 k false fun i => AV.int IntKind.i64 (iv (f i)))), (0, 2, Cont.cell (AV.ptr 1 0)), (0, 4, Cont.cell (AV.bool false)), (0, 5, Cont.cell (AV.ptr 2 0)), (0, 6, Cont.cell (AV.int IntKind.i64 (↑i : Int))), (0, 7, Cont.cell (AV.ptr 139 0)), (0, 9, Cont.cell (AV.ptr 243 0)), (0, 10, Cont.cell (AV.bool (bif okF m en n d P then doneF n d P 65536 == n else false))), (0, 53, Cont.cell (AV.bool (errF (okF m en n d P) != 0))), (1, 0, Cont.cell (AV.int IntKind.i64 m)), (1, 1, Cont.cell (AV.int IntKind.i64 en)), (1, 2, Cont.cell (AV.int IntKind.i64 n)), (1, 3, Cont.cell (AV.int IntKind.i64 d)), (2, 0, Cont.cell (AV.int IntKind.i64 (m * d / n))), (2, 1, Cont.cell (AV.int IntKind.i64 (en * d / n))), (139, 0, Cont.cell (AV.int IntKind.i64 (nextF m n d P (okF m en n d P)))), (139, 1, Cont.cell (AV.int IntKind.i64 (nextF en n d P (okF m en n d P)))), (243, 0, Cont.cell (AV.int IntKind.i64 (bif okF m en n d P then m else 0))), (243, 1, Cont.cell (AV.int IntKind.i64 (bif okF m en n d P then en else 0))), (243, 2, Cont.cell (AV.int IntKind.i64 (bif okF m en n d P then n else 0))), (243, 3, Cont.cell (AV.int IntKind.i64 (bif okF m en n d P then doneF n d P 65536 else 0)))], 315, 107⟩) (by kernel_rfl) (by kernel_rfl) ?_
            refine evC_if (q := errF (okF m en n d P) != 0) (by kernel_rfl) (fun hc => ?_) (fun hc => ?_)
            · clear hc
              refine evC_exit ?_
              refine then_exit ?_
              refine block_exit ?_
              refine then_normal ?_
              refine evC_goL0 (dec := []) (ks := [(0, 1), (0, 2), (0, 4), (0, 5), (0, 6), (1, 0), (1, 1), (1, 2), (1, 3), (2, 0), (2, 1)]) (s' := ⟨[(0, 1, Cont.cell (AV.rs 1 k false fun i => AV.int IntKind.i64 (iv (f i)))), (0, 2, Cont.cell (AV.ptr 1 0)), (0, 4, Cont.cell (AV.bool false)), (0, 5, Cont.cell (AV.ptr 2 0)), (0, 6, Cont.cell (AV.int IntKind.i64 (IntKind.i64.wrap ((↑i : Int) + 1)))), (1, 0, Cont.cell (AV.int IntKind.i64 m)), (1, 1, Cont.cell (AV.int IntKind.i64 en)), (1, 2, Cont.cell (AV.int IntKind.i64 n)), (1, 3, Cont.cell (AV.int IntKind.i64 d)), (2, 0, Cont.cell (AV.int IntKind.i64 (m * d / n))), (2, 1, Cont.cell (AV.int IntKind.i64 (en * d / n)))], 339, 107⟩) (by kernel_rfl) (by kernel_rfl) ?_
              rw [wrap_add_one hlt hk]
              exact round_normal ⟨(i + 1, d), by omega, by omega, by omega⟩ (wk_go [1, 2] rfl (by decide) rfl rfl ⟨⟨_, rfl, rfl⟩, ⟨_, rfl, rfl⟩, ⟨_, rfl, rfl⟩, ⟨_, rfl, rfl⟩, ⟨_, rfl, rfl⟩, ⟨_, rfl, rfl⟩, ⟨_, rfl, rfl⟩, ⟨_, rfl, rfl⟩, ⟨_, rfl, rfl⟩, ⟨_, rfl, rfl⟩, ⟨_, rfl, rfl⟩, trivial⟩) (by show k - (i + 1) < k - i; omega)
            · have h : okF m en n d P = true := by
                cases h1 : okF m en n d P with
                | true => rfl
                | false => rw [h1] at hc; simp [errF] at hc
              clear hc
              have hP : 0 ≤ P ∧ P ≤ 16320 := by simp [okF, inR] at h; omega
              obtain ⟨d', hd'⟩ : ∃ d', d' = mn2 n (d + P) := ⟨_, rfl⟩
              have hr : d ≤ d' ∧ d' ≤ n := by rw [hd']; unfold mn2; split <;> omega
              have e1 : moreF P 65536 = P := by
                simp only [moreF]
                rw [i64_in _ (by omega)]
                have : (2 : Int) ^ min (Int.toNat 16) IntKind.i64.bits = 65536 := rfl
                rw [this, Int.fdiv_eq_ediv_of_nonneg _ (by omega)]
                omega
              have e2 : doneF n d P 65536 = d' := by simp only [doneF, e1]; rw [i64_in _ (by omega), hd']
              have e3 : ∀ c, 0 ≤ c ∧ c ≤ 65535 → nextF c n d P true = c * d' / n - c * d / n := by
                intro c hcc
                simp only [nextF, cond_true]
                rw [i64_in (d + P) (by omega), ← hd', part_eq hcc (by omega) (by omega), part_eq hcc (by omega) (by omega)]
                have q1 := part_bound hcc (d := d') (n := n) (by omega) (by omega)
                have q2 := part_bound hcc (d := d) (n := n) (by omega) (by omega)
                exact i64_in _ (by omega)
              rw [h, e2, e3 m (by omega), e3 en (by omega)]
              simp only [cond_true]
              have mo : ∀ c, 0 ≤ c → c * d / n ≤ c * d' / n := fun c hc => part_mono hc hr.1 (by omega)
              have b1 := part_bound (c := m) (d := d') (n := n) (by omega) (by omega) (by omega)
              have b2 := part_bound (c := en) (d := d') (n := n) (by omega) (by omega) (by omega)
              have b3 := part_bound (c := m) (d := d) (n := n) (by omega) (by omega) (by omega)
              have b4 := part_bound (c := en) (d := d) (n := n) (by omega) (by omega) (by omega)
              have g1 : decide (m * d' / n - m * d / n < 0) = false := decide_eq_false (by have := mo m (by omega); omega)
              have g2 : decide (en * d' / n - en * d / n < 0) = false := decide_eq_false (by have := mo en (by omega); omega)
              have g3 : decide (d' < d) = false := decide_eq_false (by omega)
              have hmd' : mayF m en n d' = true := by simp [mayF, inR]; omega
              refine evC_skip ?_
              refine then_normal ?_
              refine evC_seq ?_
              refine evC_go0 (dec := []) (ks := [(0, 1), (0, 2), (0, 4), (0, 5), (0, 6), (0, 7), (0, 9), (0, 10), (0, 68), (1, 0), (1, 1), (1, 2), (1, 3), (2, 0), (2, 1), (139, 0), (139, 1), (243, 0), (243, 1), (243, 2), (243, 3)]) (s' := ⟨[(0, 1, Cont.cell (AV.rs 1 k false fun i => AV.int IntKind.i64 (iv (f i)))), (0, 2, Cont.cell (AV.ptr 1 0)), (0, 4, Cont.cell (AV.bool false)), (0, 5, Cont.cell (AV.ptr 2 0)), (0, 6, Cont.cell (AV.int IntKind.i64 (↑i : Int))), (0, 7, Cont.cell (AV.ptr 139 0)), (0, 9, Cont.cell (AV.ptr 243 0)), (0, 10, Cont.cell (AV.bool (d' == n))), (0, 68, Cont.cell (AV.bool (bif bif decide (m * d' / n - m * d / n < 0) then true else decide (en * d' / n - en * d / n < 0) then true else decide (d' < d)))), (1, 0, Cont.cell (AV.int IntKind.i64 m)), (1, 1, Cont.cell (AV.int IntKind.i64 en)), (1, 2, Cont.cell (AV.int IntKind.i64 n)), (1, 3, Cont.cell (AV.int IntKind.i64 d)), (2, 0, Cont.cell (AV.int IntKind.i64 (m * d / n))), (2, 1, Cont.cell (AV.int IntKind.i64 (en * d / n))), (139, 0, Cont.cell (AV.int IntKind.i64 (m * d' / n - m * d / n))), (139, 1, Cont.cell (AV.int IntKind.i64 (en * d' / n - en * d / n))), (243, 0, Cont.cell (AV.int IntKind.i64 m)), (243, 1, Cont.cell (AV.int IntKind.i64 en)), (243, 2, Cont.cell (AV.int IntKind.i64 n)), (243, 3, Cont.cell (AV.int IntKind.i64 d'))], 435, 107⟩) (by kernel_rfl) (by kernel_rfl) ?_
              refine evC_if (q := bif bif decide (m * d' / n - m * d / n < 0) then true else decide (en * d' / n - en * d / n < 0) then true else decide (d' < d)) (by kernel_rfl) (fun hc => ?_) (fun hc => ?_)
              · rw [g1, g2, g3] at hc; simp at hc
              clear hc
              refine evC_skip ?_
              refine then_normal ?_
              refine evC_go0 (dec := []) (ks := [(0, 1), (0, 2), (0, 4), (0, 5), (0, 6), (0, 7), (0, 9), (0, 10), (1, 0), (1, 1), (1, 2), (1, 3), (2, 0), (2, 1), (139, 0), (139, 1), (243, 0), (243, 1), (243, 2), (243, 3)]) (s' := ⟨[(0, 1, Cont.cell (AV.rs 1 k false fun i => AV.int IntKind.i64 (iv (f i)))), (0, 2, Cont.cell (AV.ptr 1 0)), (0, 4, Cont.cell (AV.bool false)), (0, 5, Cont.cell (AV.ptr 2 0)), (0, 6, Cont.cell (AV.int IntKind.i64 (↑i : Int))), (0, 7, Cont.cell (AV.ptr 139 0)), (0, 9, Cont.cell (AV.ptr 243 0)), (0, 10, Cont.cell (AV.bool (d' == n))), (1, 0, Cont.cell (AV.int IntKind.i64 m)), (1, 1, Cont.cell (AV.int IntKind.i64 en)), (1, 2, Cont.cell (AV.int IntKind.i64 n)), (1, 3, Cont.cell (AV.int IntKind.i64 d)), (2, 0, Cont.cell (AV.int IntKind.i64 (IntKind.i64.wrap (m * d / n + (m * d' / n - m * d / n))))), (2, 1, Cont.cell (AV.int IntKind.i64 (en * d / n))), (139, 0, Cont.cell (AV.int IntKind.i64 (m * d' / n - m * d / n))), (139, 1, Cont.cell (AV.int IntKind.i64 (en * d' / n - en * d / n))), (243, 0, Cont.cell (AV.int IntKind.i64 m)), (243, 1, Cont.cell (AV.int IntKind.i64 en)), (243, 2, Cont.cell (AV.int IntKind.i64 n)), (243, 3, Cont.cell (AV.int IntKind.i64 d'))], 491, 107⟩) (by kernel_rfl) (by kernel_rfl) ?_
              refine evC_go0 (dec := []) (ks := [(0, 1), (0, 2), (0, 4), (0, 5), (0, 6), (0, 9), (0, 10), (1, 0), (1, 1), (1, 2), (1, 3), (2, 0), (2, 1), (243, 0), (243, 1), (243, 2), (243, 3)]) (s' := ⟨[(0, 1, Cont.cell (AV.rs 1 k false fun i => AV.int IntKind.i64 (iv (f i)))), (0, 2, Cont.cell (AV.ptr 1 0)), (0, 4, Cont.cell (AV.bool false)), (0, 5, Cont.cell (AV.ptr 2 0)), (0, 6, Cont.cell (AV.int IntKind.i64 (↑i : Int))), (0, 9, Cont.cell (AV.ptr 243 0)), (0, 10, Cont.cell (AV.bool (d' == n))), (1, 0, Cont.cell (AV.int IntKind.i64 m)), (1, 1, Cont.cell (AV.int IntKind.i64 en)), (1, 2, Cont.cell (AV.int IntKind.i64 n)), (1, 3, Cont.cell (AV.int IntKind.i64 d)), (2, 0, Cont.cell (AV.int IntKind.i64 (IntKind.i64.wrap (m * d / n + (m * d' / n - m * d / n))))), (2, 1, Cont.cell (AV.int IntKind.i64 (IntKind.i64.wrap (en * d / n + (en * d' / n - en * d / n))))), (243, 0, Cont.cell (AV.int IntKind.i64 m)), (243, 1, Cont.cell (AV.int IntKind.i64 en)), (243, 2, Cont.cell (AV.int IntKind.i64 n)), (243, 3, Cont.cell (AV.int IntKind.i64 d'))], 547, 107⟩) (by kernel_rfl) (by kernel_rfl) ?_
              rw [show m * d / n + (m * d' / n - m * d / n) = m * d' / n by omega, show en * d / n + (en * d' / n - en * d / n) = en * d' / n by omega, i64_in (m * d' / n) (by omega), i64_in (en * d' / n) (by omega)]
              have t1 : tkF m n d' true = m * d' / n := by simp only [tkF, cond_true]; exact part_eq (by omega) (by omega) (by omega)
              have t2 : tkF en n d' true = en * d' / n := by simp only [tkF, cond_true]; exact part_eq (by omega) (by omega) (by omega)
              refine evC_go0 (dec := []) (ks := [(0, 1), (0, 2), (0, 4), (0, 5), (0, 6), (0, 10), (1, 0), (1, 1), (1, 2), (1, 3), (2, 0), (2, 1)]) (s' := ⟨[(0, 1, Cont.cell (AV.rs 1 k false fun i => AV.int IntKind.i64 (iv (f i)))), (0, 2, Cont.cell (AV.ptr 1 0)), (0, 4, Cont.cell (AV.bool false)), (0, 5, Cont.cell (AV.ptr 2 0)), (0, 6, Cont.cell (AV.int IntKind.i64 (↑i : Int))), (0, 10, Cont.cell (AV.bool (d' == n))), (1, 0, Cont.cell (AV.int IntKind.i64 m)), (1, 1, Cont.cell (AV.int IntKind.i64 en)), (1, 2, Cont.cell (AV.int IntKind.i64 n)), (1, 3, Cont.cell (AV.int IntKind.i64 d')), (2, 0, Cont.cell (AV.int IntKind.i64 (m * d' / n))), (2, 1, Cont.cell (AV.int IntKind.i64 (en * d' / n)))], 563, 107⟩) (by kernel_rfl) (by kernel_rfl) ?_
              refine evC_go0 (dec := []) (ks := [(0, 1), (0, 2), (0, 4), (0, 5), (0, 6), (0, 10), (0, 12), (0, 13), (1, 0), (1, 1), (1, 2), (1, 3), (2, 0), (2, 1), (603, 0), (603, 1)]) (s' := ⟨[(0, 1, Cont.cell (AV.rs 1 k false fun i => AV.int IntKind.i64 (iv (f i)))), (0, 2, Cont.cell (AV.ptr 1 0)), (0, 4, Cont.cell (AV.bool false)), (0, 5, Cont.cell (AV.ptr 2 0)), (0, 6, Cont.cell (AV.int IntKind.i64 (↑i : Int))), (0, 10, Cont.cell (AV.bool (d' == n))), (0, 12, Cont.cell (AV.ptr 603 0)), (0, 13, Cont.cell (AV.int IntKind.i64 (errF (mayF m en n d')))), (1, 0, Cont.cell (AV.int IntKind.i64 m)), (1, 1, Cont.cell (AV.int IntKind.i64 en)), (1, 2, Cont.cell (AV.int IntKind.i64 n)), (1, 3, Cont.cell (AV.int IntKind.i64 d')), (2, 0, Cont.cell (AV.int IntKind.i64 (m * d' / n))), (2, 1, Cont.cell (AV.int IntKind.i64 (en * d' / n))), (603, 0, Cont.cell (AV.int IntKind.i64 (tkF m n d' (mayF m en n d')))), (603, 1, Cont.cell (AV.int IntKind.i64 (tkF en n d' (mayF m en n d'))))], 627, 107⟩) (by kernel_rfl) (by kernel_rfl) ?_
              rw [hmd', t1, t2]
              refine evC_go0 (dec := []) (ks := [(0, 1), (0, 2), (0, 4), (0, 5), (0, 6), (0, 105), (1, 0), (1, 1), (1, 2), (1, 3), (2, 0), (2, 1)]) (s' := ⟨[(0, 1, Cont.cell (AV.rs 1 k false fun i => AV.int IntKind.i64 (iv (f i)))), (0, 2, Cont.cell (AV.ptr 1 0)), (0, 4, Cont.cell (AV.bool false)), (0, 5, Cont.cell (AV.ptr 2 0)), (0, 6, Cont.cell (AV.int IntKind.i64 (↑i : Int))), (0, 105, Cont.cell (AV.bool (bif bif errF true != 0 then true else !(m * d' / n == m * d' / n && (en * d' / n == en * d' / n && true)) then true else bif d' == n then !(m * d' / n == m && (en * d' / n == en && true)) else false))), (1, 0, Cont.cell (AV.int IntKind.i64 m)), (1, 1, Cont.cell (AV.int IntKind.i64 en)), (1, 2, Cont.cell (AV.int IntKind.i64 n)), (1, 3, Cont.cell (AV.int IntKind.i64 d')), (2, 0, Cont.cell (AV.int IntKind.i64 (m * d' / n))), (2, 1, Cont.cell (AV.int IntKind.i64 (en * d' / n)))], 779, 107⟩) (by kernel_rfl) (by kernel_rfl) ?_
              refine evC_if (q := bif bif errF true != 0 then true else !(m * d' / n == m * d' / n && (en * d' / n == en * d' / n && true)) then true else bif d' == n then !(m * d' / n == m && (en * d' / n == en && true)) else false) (by kernel_rfl) (fun hc => ?_) (fun hc => ?_)
              · exfalso
                by_cases hdn' : d' = n
                · have u1 : m * n / n = m := Int.mul_ediv_cancel _ (by omega)
                  have u2 : en * n / n = en := Int.mul_ediv_cancel _ (by omega)
                  rw [hdn'] at hc
                  simp [u1, u2, errF] at hc
                · simp [errF, hdn'] at hc
              clear hc
              refine evC_skip ?_
              refine block_normal ?_
              refine then_normal ?_
              refine evC_goL0 (dec := []) (ks := [(0, 1), (0, 2), (0, 4), (0, 5), (0, 6), (1, 0), (1, 1), (1, 2), (1, 3), (2, 0), (2, 1)]) (s' := ⟨[(0, 1, Cont.cell (AV.rs 1 k false fun i => AV.int IntKind.i64 (iv (f i)))), (0, 2, Cont.cell (AV.ptr 1 0)), (0, 4, Cont.cell (AV.bool false)), (0, 5, Cont.cell (AV.ptr 2 0)), (0, 6, Cont.cell (AV.int IntKind.i64 (IntKind.i64.wrap ((↑i : Int) + 1)))), (1, 0, Cont.cell (AV.int IntKind.i64 m)), (1, 1, Cont.cell (AV.int IntKind.i64 en)), (1, 2, Cont.cell (AV.int IntKind.i64 n)), (1, 3, Cont.cell (AV.int IntKind.i64 d')), (2, 0, Cont.cell (AV.int IntKind.i64 (m * d' / n))), (2, 1, Cont.cell (AV.int IntKind.i64 (en * d' / n)))], 803, 107⟩) (by kernel_rfl) (by kernel_rfl) ?_
              rw [wrap_add_one hlt hk]
              exact round_normal ⟨(i + 1, d'), by omega, by omega, by omega⟩ (wk_go [1, 2] rfl (by decide) rfl rfl ⟨⟨_, rfl, rfl⟩, ⟨_, rfl, rfl⟩, ⟨_, rfl, rfl⟩, ⟨_, rfl, rfl⟩, ⟨_, rfl, rfl⟩, ⟨_, rfl, rfl⟩, ⟨_, rfl, rfl⟩, ⟨_, rfl, rfl⟩, ⟨_, rfl, rfl⟩, ⟨_, rfl, rfl⟩, ⟨_, rfl, rfl⟩, trivial⟩) (by show k - (i + 1) < k - i; omega)
          · refine evC_exit ?_
            refine then_exit ?_
            refine round_exit ?_
            refine block_exit ?_
            refine then_normal ?_
            refine evC_go0 (dec := []) (ks := [(0, 4)]) (s' := ⟨[(0, 4, Cont.cell (AV.bool true))], 83, 107⟩) (by kernel_rfl) (by kernel_rfl) ?_
            refine evC_ret ?_
            refine post_ret ?_
            refine ends_flat (vs := [AV.bool true]) (Nat.zero_lt_succ _) (by kernel_rfl) (flat_of _ (by kernel_rfl)) rfl ?_
            rfl
    · cases e
  · cases e
end Go.Eng.S20
