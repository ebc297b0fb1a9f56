/- Seat top, stores: the law, walked. -/
import Derived.Test.YthfpdhhnokhldaaEngX
import Derived.Test.YthfpdhhnokhldaaS26D
set_option linter.unusedSimpArgs false
set_option linter.unusedVariables false
namespace Go.Eng.S26
open Go.Proofs Go.IntWalk
set_option maxRecDepth 10000

/-- What is done behind some ticks; what it has taken then. -/
def dn (n p : Int) (t : Nat) : Int := mn2 n ((t : Int) * p)
def qd (c d n : Int) : Int := c * d / n
theorem qd_bound {c d n : Int} (hc : 0 ≤ c) (hd : 0 ≤ d) (hn : 1 ≤ n) (hdn : d ≤ n) : 0 ≤ qd c d n ∧ qd c d n ≤ c := by
  refine ⟨Int.ediv_nonneg (Int.mul_nonneg hc hd) (by omega), ?_⟩
  exact Int.ediv_le_of_le_mul (by omega) (Int.mul_le_mul_of_nonneg_left hdn hc)
theorem qd_mono {c d d' n : Int} (hc : 0 ≤ c) (hn : 1 ≤ n) (h : d ≤ d') : qd c d n ≤ qd c d' n :=
  Int.ediv_le_ediv (by omega) (Int.mul_le_mul_of_nonneg_left h hc)
theorem qd_all {c n : Int} (hn : 1 ≤ n) : qd c n n = c := Int.mul_ediv_cancel _ (by omega)
theorem part_eq {c d n : Int} (hc : 0 ≤ c ∧ c ≤ 65535) (hd : 0 ≤ d) (hdn : d ≤ n) (hn : 1 ≤ n ∧ n ≤ 65535) : partF c d n = qd c d n := by
  have h1 := Int.mul_nonneg hc.1 hd
  have h2 : c * d ≤ 65535 * 65535 := by
    have := Int.mul_le_mul hc.2 (by omega : d ≤ 65535) hd (by omega)
    exact this
  have h3 := qd_bound hc.1 hd hn.1 hdn
  unfold partF
  rw [i64_in (c * d) (by omega), Int.tdiv_eq_ediv_of_nonneg h1]
  exact i64_in _ (by unfold qd at h3; omega)
theorem dn_rng {n p : Int} (hn : 1 ≤ n) (hp : 1 ≤ p) (t : Nat) : 0 ≤ dn n p t ∧ dn n p t ≤ n := by
  have := Int.mul_nonneg (Int.natCast_nonneg t) (by omega : 0 ≤ p)
  unfold dn mn2; split <;> omega
theorem dn_zero {n p : Int} (hn : 1 ≤ n) : dn n p 0 = 0 := by
  unfold dn mn2
  rw [show (((0 : Nat) : Int) * p) = 0 by simp]
  split <;> omega
theorem succ_mul (t : Nat) (p : Int) : ((t + 1 : Nat) : Int) * p = (t : Int) * p + p := by
  push_cast; rw [Int.add_mul, Int.one_mul]
theorem dn_next {n p : Int} (hn : 1 ≤ n) (hp : 1 ≤ p) {t : Nat} (h : (t : Int) * p < n) : dn n p t = (t : Int) * p ∧ mn2 n (dn n p t + p) = dn n p (t + 1) := by
  have e : dn n p t = (t : Int) * p := by unfold dn mn2; split <;> omega
  refine ⟨e, ?_⟩
  rw [e]; unfold dn; rw [succ_mul]
theorem tick_lt {n p : Int} (hn : 1 ≤ n) (hp : 1 ≤ p) (t : Nat) : (t : Int) < (n + p - 1).tdiv p ↔ (t : Int) * p < n := by
  rw [Int.tdiv_eq_ediv_of_nonneg (by omega)]
  rw [show ((t : Int) < (n + p - 1) / p ↔ (t : Int) + 1 ≤ (n + p - 1) / p) by omega, Int.le_ediv_iff_mul_le (by omega), Int.add_mul, Int.one_mul]
  omega
def sStores : Spec := fun args _ _ => match args with
  | [.agg [.int .i64 m, .int .i64 en, .int .i64 n, .int .i64 d], .agg [.int .i64 pm, .int .i64 pe, .int .i64 cm, .int .i64 ce], .int .i64 p] => some ⟨[], .bool true, [], []⟩
  | _ => none
theorem stores_ok : SpecOK Try.prog 4 sStores := by
  refine spec_own (by kernel_rfl) T_ok (sget_cons scale_ok (sget_cons may_ok (sget_cons mayP_ok (sget_cons next_ok (sget_cons serve_ok (sget_cons work_ok sget_nil)))))) Try.func4 rfl rfl fun args hr nb out e => ?_
  unfold sStores at e
  split at e
  · rename_i m en n d pm pe cm ce p
    injection e with e; subst e
    refine ⟨(fun _ h => nomatch h), true, [.agg [.int .i64 m, .int .i64 en, .int .i64 n, .int .i64 d], .agg [.int .i64 pm, .int .i64 pe, .int .i64 cm, .int .i64 ce], .int .i64 p], rfl, fun hs => ⟨.cons _ _ _ _ (.same _ _ (flat_of _ rfl).has) (.cons _ _ _ _ (.same _ _ (flat_of _ rfl).has) (.cons _ _ _ _ (.same _ _ (.int _ _)) .nil)), ?_⟩⟩
    clear hs
    refine evC_go0 (dec := []) (ks := [(0, 2), (0, 3), (0, 4), (0, 6), (1, 0), (1, 1), (1, 2), (1, 3), (1, 4), (9, 0), (9, 1), (9, 2), (9, 3), (9, 4)]) (s' := ⟨[(0, 2, Cont.cell (AV.int IntKind.i64 p)), (0, 3, Cont.cell (AV.ptr 1 0)), (0, 4, Cont.cell (AV.ptr 9 0)), (0, 6, Cont.cell (AV.bool false)), (1, 0, Cont.cell (AV.int IntKind.i64 m)), (1, 1, Cont.cell (AV.int IntKind.i64 en)), (1, 2, Cont.cell (AV.int IntKind.i64 n)), (1, 3, Cont.cell (AV.int IntKind.i64 d)), (1, 4, Cont.top), (9, 0, Cont.cell (AV.int IntKind.i64 pm)), (9, 1, Cont.cell (AV.int IntKind.i64 pe)), (9, 2, Cont.cell (AV.int IntKind.i64 cm)), (9, 3, Cont.cell (AV.int IntKind.i64 ce)), (9, 4, Cont.top)], 25, 160⟩) (by kernel_rfl) (by kernel_rfl) ?_
    refine evC_go0 (dec := []) (ks := [(0, 2), (0, 3), (0, 4), (0, 6), (1, 0), (1, 1), (1, 2), (1, 3), (1, 4), (9, 0), (9, 1), (9, 2), (9, 3), (9, 4)]) (s' := ⟨[(0, 2, Cont.cell (AV.int IntKind.i64 p)), (0, 3, Cont.cell (AV.ptr 1 0)), (0, 4, Cont.cell (AV.ptr 9 0)), (0, 6, Cont.cell (AV.bool false)), (1, 0, Cont.cell (AV.int IntKind.i64 m)), (1, 1, Cont.cell (AV.int IntKind.i64 en)), (1, 2, Cont.cell (AV.int IntKind.i64 n)), (1, 3, Cont.cell (AV.int IntKind.i64 0)), (1, 4, Cont.top), (9, 0, Cont.cell (AV.int IntKind.i64 pm)), (9, 1, Cont.cell (AV.int IntKind.i64 pe)), (9, 2, Cont.cell (AV.int IntKind.i64 cm)), (9, 3, Cont.cell (AV.int IntKind.i64 ce)), (9, 4, Cont.top)], 41, 160⟩) (by kernel_rfl) (by kernel_rfl) ?_
    refine evC_seq ?_
    refine evC_go (dec := []) (ks := [(0, 2), (0, 3), (0, 4), (0, 6), (0, 7), (0, 8), (1, 0), (1, 1), (1, 2), (1, 3), (1, 4), (9, 0), (9, 1), (9, 2), (9, 3), (9, 4)]) (ps := [(1 : Int) = (1 : Int) ∧ (2 : Int) = (2 : Int) ∨ (0 : Int) ≤ (2 : Int) ∧ (2 : Int) ≤ (1 : Int) ∧ (1 : Int) ≤ (1099511627776 : Int)]) (s' := ⟨[(0, 2, Cont.cell (AV.int IntKind.i64 p)), (0, 3, Cont.cell (AV.ptr 1 0)), (0, 4, Cont.cell (AV.ptr 9 0)), (0, 6, Cont.cell (AV.bool false)), (0, 7, Cont.cell (AV.int IntKind.i64 (scF 1 2))), (0, 8, Cont.cell (AV.int IntKind.i64 0)), (1, 0, Cont.cell (AV.int IntKind.i64 m)), (1, 1, Cont.cell (AV.int IntKind.i64 en)), (1, 2, Cont.cell (AV.int IntKind.i64 n)), (1, 3, Cont.cell (AV.int IntKind.i64 0)), (1, 4, Cont.top), (9, 0, Cont.cell (AV.int IntKind.i64 pm)), (9, 1, Cont.cell (AV.int IntKind.i64 pe)), (9, 2, Cont.cell (AV.int IntKind.i64 cm)), (9, 3, Cont.cell (AV.int IntKind.i64 ce)), (9, 4, Cont.top)], 89, 160⟩) (by kernel_rfl) (by kernel_rfl) ?_ ?_
    · exact .inl ⟨rfl, rfl⟩
    refine evC_go0 (dec := []) (ks := [(0, 2), (0, 3), (0, 4), (0, 6), (0, 30), (1, 0), (1, 1), (1, 2), (1, 3), (1, 4), (9, 0), (9, 1), (9, 2), (9, 3), (9, 4)]) (s' := ⟨[(0, 2, Cont.cell (AV.int IntKind.i64 p)), (0, 3, Cont.cell (AV.ptr 1 0)), (0, 4, Cont.cell (AV.ptr 9 0)), (0, 6, Cont.cell (AV.bool false)), (0, 30, Cont.cell (AV.bool false)), (1, 0, Cont.cell (AV.int IntKind.i64 m)), (1, 1, Cont.cell (AV.int IntKind.i64 en)), (1, 2, Cont.cell (AV.int IntKind.i64 n)), (1, 3, Cont.cell (AV.int IntKind.i64 0)), (1, 4, Cont.top), (9, 0, Cont.cell (AV.int IntKind.i64 pm)), (9, 1, Cont.cell (AV.int IntKind.i64 pe)), (9, 2, Cont.cell (AV.int IntKind.i64 cm)), (9, 3, Cont.cell (AV.int IntKind.i64 ce)), (9, 4, Cont.top)], 137, 160⟩) (by kernel_rfl) (by kernel_rfl) ?_
    refine evC_if (q := false) (by kernel_rfl) (fun hc => ?_) (fun hc => ?_)
    · cases hc
    clear hc
    refine evC_skip ?_
    refine then_normal ?_
    refine evC_seq ?_
    refine evC_go (dec := []) (ks := [(0, 2), (0, 3), (0, 4), (0, 6), (0, 67), (1, 0), (1, 1), (1, 2), (1, 3), (1, 4), (9, 0), (9, 1), (9, 2), (9, 3), (9, 4)]) (ps := [List.all [!bif bif bif !mayF m en n (0 : Int) then true else !mayP pm pe cm ce then true else decide (p < (1 : Int)) then true else decide (p > (16320 : Int))] id = true → p ≠ (0 : Int)]) (s' := ⟨[(0, 2, Cont.cell (AV.int IntKind.i64 p)), (0, 3, Cont.cell (AV.ptr 1 0)), (0, 4, Cont.cell (AV.ptr 9 0)), (0, 6, Cont.cell (AV.bool false)), (0, 67, Cont.cell (AV.bool (bif bif bif bif bif bif !mayF m en n 0 then true else !mayP pm pe cm ce then true else decide (p < 1) then true else decide (p > 16320) then true else decide (IntKind.i64.wrap (Int.tdiv n p) > 500) then true else decide (pm < m) then true else decide (pe < en)))), (1, 0, Cont.cell (AV.int IntKind.i64 m)), (1, 1, Cont.cell (AV.int IntKind.i64 en)), (1, 2, Cont.cell (AV.int IntKind.i64 n)), (1, 3, Cont.cell (AV.int IntKind.i64 0)), (1, 4, Cont.top), (9, 0, Cont.cell (AV.int IntKind.i64 pm)), (9, 1, Cont.cell (AV.int IntKind.i64 pe)), (9, 2, Cont.cell (AV.int IntKind.i64 cm)), (9, 3, Cont.cell (AV.int IntKind.i64 ce)), (9, 4, Cont.top)], 433, 160⟩) (by kernel_rfl) (by kernel_rfl) ?_ ?_
    · intro h h0
      subst h0
      simp at h
    refine evC_if (q := bif bif bif bif bif bif !mayF m en n 0 then true else !mayP pm pe cm ce then true else decide (p < 1) then true else decide (p > 16320) then true else decide (IntKind.i64.wrap (Int.tdiv n p) > 500) then true else decide (pm < m) then true else decide (pe < en)) (by kernel_rfl) (fun hc => ?_) (fun hc => ?_)
    · refine evC_go0 (dec := []) (ks := [(0, 2), (0, 3), (0, 4), (0, 6), (1, 0), (1, 1), (1, 2), (1, 3), (1, 4), (9, 0), (9, 1), (9, 2), (9, 3), (9, 4)]) (s' := ⟨[(0, 2, Cont.cell (AV.int IntKind.i64 p)), (0, 3, Cont.cell (AV.ptr 1 0)), (0, 4, Cont.cell (AV.ptr 9 0)), (0, 6, Cont.cell (AV.bool true)), (1, 0, Cont.cell (AV.int IntKind.i64 m)), (1, 1, Cont.cell (AV.int IntKind.i64 en)), (1, 2, Cont.cell (AV.int IntKind.i64 n)), (1, 3, Cont.cell (AV.int IntKind.i64 0)), (1, 4, Cont.top), (9, 0, Cont.cell (AV.int IntKind.i64 pm)), (9, 1, Cont.cell (AV.int IntKind.i64 pe)), (9, 2, Cont.cell (AV.int IntKind.i64 cm)), (9, 3, Cont.cell (AV.int IntKind.i64 ce)), (9, 4, Cont.top)], 441, 160⟩) (by kernel_rfl) (by kernel_rfl) ?_
      refine evC_ret ?_
      refine then_ret ?_
      refine post_ret ?_
      refine ends_flat (vs := [AV.bool true]) (Nat.zero_lt_succ _) (by kernel_rfl) (flat_of _ (by kernel_rfl)) rfl ?_
      rfl
    · simp only [cond_or, Bool.or_eq_false_iff, Bool.not_eq_false', decide_eq_false_iff_not] at hc
      obtain ⟨⟨⟨⟨⟨⟨hm, hp⟩, p1⟩, p2⟩, p3⟩, g1⟩, g2⟩ := hc
      have hq : (0 ≤ cm ∧ cm ≤ 1073741824) ∧ (0 ≤ ce ∧ ce ≤ 1073741824) ∧ (0 ≤ pm ∧ pm ≤ cm) ∧ (0 ≤ pe ∧ pe ≤ ce) := by
        unfold mayP at hp
        simp [inR] at hp
        omega
      have hs : (0 ≤ m ∧ m ≤ 65535) ∧ (0 ≤ en ∧ en ≤ 65535) ∧ (1 ≤ n ∧ n ≤ 65535) := by
        unfold mayF at hm
        simp [inR] at hm
        omega
      obtain ⟨sm, se, sn⟩ := hs
      have q1 : 1 ≤ p := by omega
      have q2 : p ≤ 16320 := by omega
      clear p1 p2 p3 hm hp
      refine evC_skip ?_
      refine then_normal ?_
      refine evC_go0 (dec := []) (ks := [(0, 2), (0, 3), (0, 4), (0, 6), (0, 9), (1, 0), (1, 1), (1, 2), (1, 3), (1, 4), (9, 0), (9, 1), (9, 2), (9, 3), (9, 4), (441, 0), (441, 1), (441, 2), (441, 3), (441, 4)]) (s' := ⟨[(0, 2, Cont.cell (AV.int IntKind.i64 p)), (0, 3, Cont.cell (AV.ptr 1 0)), (0, 4, Cont.cell (AV.ptr 9 0)), (0, 6, Cont.cell (AV.bool false)), (0, 9, Cont.cell (AV.ptr 441 0)), (1, 0, Cont.cell (AV.int IntKind.i64 m)), (1, 1, Cont.cell (AV.int IntKind.i64 en)), (1, 2, Cont.cell (AV.int IntKind.i64 n)), (1, 3, Cont.cell (AV.int IntKind.i64 0)), (1, 4, Cont.top), (9, 0, Cont.cell (AV.int IntKind.i64 pm)), (9, 1, Cont.cell (AV.int IntKind.i64 pe)), (9, 2, Cont.cell (AV.int IntKind.i64 cm)), (9, 3, Cont.cell (AV.int IntKind.i64 ce)), (9, 4, Cont.top), (441, 0, Cont.cell (AV.int IntKind.i64 pm)), (441, 1, Cont.cell (AV.int IntKind.i64 pe)), (441, 2, Cont.cell (AV.int IntKind.i64 cm)), (441, 3, Cont.cell (AV.int IntKind.i64 ce)), (441, 4, Cont.top)], 457, 160⟩) (by kernel_rfl) (by kernel_rfl) ?_
      refine evC_seq ?_
      refine evC_go0 (dec := []) (ks := [(0, 2), (0, 3), (0, 4), (0, 6), (0, 9), (0, 10), (1, 0), (1, 1), (1, 2), (1, 3), (1, 4), (9, 0), (9, 1), (9, 2), (9, 3), (9, 4), (441, 0), (441, 1), (441, 2), (441, 3), (441, 4)]) (s' := ⟨[(0, 2, Cont.cell (AV.int IntKind.i64 p)), (0, 3, Cont.cell (AV.ptr 1 0)), (0, 4, Cont.cell (AV.ptr 9 0)), (0, 6, Cont.cell (AV.bool false)), (0, 9, Cont.cell (AV.ptr 441 0)), (0, 10, Cont.cell (AV.int IntKind.i64 0)), (1, 0, Cont.cell (AV.int IntKind.i64 m)), (1, 1, Cont.cell (AV.int IntKind.i64 en)), (1, 2, Cont.cell (AV.int IntKind.i64 n)), (1, 3, Cont.cell (AV.int IntKind.i64 0)), (1, 4, Cont.top), (9, 0, Cont.cell (AV.int IntKind.i64 pm)), (9, 1, Cont.cell (AV.int IntKind.i64 pe)), (9, 2, Cont.cell (AV.int IntKind.i64 cm)), (9, 3, Cont.cell (AV.int IntKind.i64 ce)), (9, 4, Cont.top), (441, 0, Cont.cell (AV.int IntKind.i64 pm)), (441, 1, Cont.cell (AV.int IntKind.i64 pe)), (441, 2, Cont.cell (AV.int IntKind.i64 cm)), (441, 3, Cont.cell (AV.int IntKind.i64 ce)), (441, 4, Cont.top)], 465, 160⟩) (by kernel_rfl) (by kernel_rfl) ?_
      refine evC_block ?_
      refine evC_loop (ι := { t : Nat // t ≤ 65536 }) (fun x => ⟨[(0, 2, Cont.cell (AV.int IntKind.i64 p)), (0, 3, Cont.cell (AV.ptr 1 0)), (0, 4, Cont.cell (AV.ptr 2 0)), (0, 6, Cont.cell (AV.bool false)), (0, 9, Cont.cell (AV.ptr 3 0)), (0, 10, .cell (.int .i64 (x.1 : Nat))), (1, 0, Cont.cell (AV.int IntKind.i64 m)), (1, 1, Cont.cell (AV.int IntKind.i64 en)), (1, 2, Cont.cell (AV.int IntKind.i64 n)), (1, 3, .cell (.int .i64 (dn n p x.1))), (1, 4, Cont.top), (2, 0, .cell (.int .i64 (pm - qd m (dn n p x.1) n))), (2, 1, .cell (.int .i64 (pe - qd en (dn n p x.1) n))), (2, 2, Cont.cell (AV.int IntKind.i64 cm)), (2, 3, Cont.cell (AV.int IntKind.i64 ce)), (2, 4, Cont.top), (3, 0, Cont.cell (AV.int IntKind.i64 pm)), (3, 1, Cont.cell (AV.int IntKind.i64 pe)), (3, 2, Cont.cell (AV.int IntKind.i64 cm)), (3, 3, Cont.cell (AV.int IntKind.i64 ce)), (3, 4, Cont.top)], 4, 160⟩) (fun x => 65536 - x.1) ⟨0, Nat.zero_le _⟩ (wk_go [1, 9, 441] rfl (by decide) rfl rfl ⟨⟨_, rfl, rfl⟩, ⟨_, rfl, rfl⟩, ⟨_, rfl, rfl⟩, ⟨_, rfl, rfl⟩, ⟨_, rfl, rfl⟩, ⟨_, rfl, rfl⟩, ⟨_, rfl, rfl⟩, ⟨_, rfl, rfl⟩, ⟨_, rfl, rfl⟩, ⟨_, rfl, ?_⟩, ⟨_, rfl, trivial⟩, ⟨_, rfl, ?_⟩, ⟨_, rfl, ?_⟩, ⟨_, rfl, rfl⟩, ⟨_, rfl, rfl⟩, ⟨_, rfl, trivial⟩, ⟨_, rfl, rfl⟩, ⟨_, rfl, rfl⟩, ⟨_, rfl, rfl⟩, ⟨_, rfl, rfl⟩, ⟨_, rfl, trivial⟩, trivial⟩) ?_
      · refine congrArg (AV.int .i64) ?_
        show 0 = dn n p 0
        rw [dn_zero sn.1]
      · refine congrArg (AV.int .i64) ?_
        show pm = pm - qd m (dn n p 0) n
        rw [dn_zero sn.1]; unfold qd; simp
      · refine congrArg (AV.int .i64) ?_
        show pe = pe - qd en (dn n p 0) n
        rw [dn_zero sn.1]; unfold qd; simp
      rintro ⟨t, ht⟩
      have hd := dn_rng sn.1 q1 t
      have b1 := qd_bound sm.1 hd.1 sn.1 hd.2
      have b2 := qd_bound se.1 hd.1 sn.1 hd.2
      have w1 : IntKind.i64.wrap (n + p) = n + p := i64_in _ (by omega)
      have w2 : IntKind.i64.wrap (n + p - 1) = n + p - 1 := i64_in _ (by omega)
      have hk : 0 ≤ (n + p - 1).tdiv p ∧ (n + p - 1).tdiv p ≤ n + p - 1 := by
        rw [Int.tdiv_eq_ediv_of_nonneg (by omega)]
        exact ⟨Int.ediv_nonneg (by omega) (by omega), Int.ediv_le_self _ (by omega)⟩
      have w3 : IntKind.i64.wrap ((n + p - 1).tdiv p) = (n + p - 1).tdiv p := i64_in _ (by omega)
      refine evC_seq ?_
      refine evC_go (dec := []) (ks := [(0, 2), (0, 3), (0, 4), (0, 6), (0, 9), (0, 10), (0, 77), (1, 0), (1, 1), (1, 2), (1, 3), (1, 4), (2, 0), (2, 1), (2, 2), (2, 3), (2, 4), (3, 0), (3, 1), (3, 2), (3, 3), (3, 4)]) (ps := [p ≠ (0 : Int)]) (s' := ⟨[(0, 2, Cont.cell (AV.int IntKind.i64 p)), (0, 3, Cont.cell (AV.ptr 1 0)), (0, 4, Cont.cell (AV.ptr 2 0)), (0, 6, Cont.cell (AV.bool false)), (0, 9, Cont.cell (AV.ptr 3 0)), (0, 10, Cont.cell (AV.int IntKind.i64 (↑t : Int))), (0, 77, Cont.cell (AV.bool (decide ((↑t : Int) < IntKind.i64.wrap (Int.tdiv (IntKind.i64.wrap (IntKind.i64.wrap (n + p) - 1)) p))))), (1, 0, Cont.cell (AV.int IntKind.i64 m)), (1, 1, Cont.cell (AV.int IntKind.i64 en)), (1, 2, Cont.cell (AV.int IntKind.i64 n)), (1, 3, Cont.cell (AV.int IntKind.i64 (dn n p t))), (1, 4, Cont.top), (2, 0, Cont.cell (AV.int IntKind.i64 (pm - qd m (dn n p t) n))), (2, 1, Cont.cell (AV.int IntKind.i64 (pe - qd en (dn n p t) n))), (2, 2, Cont.cell (AV.int IntKind.i64 cm)), (2, 3, Cont.cell (AV.int IntKind.i64 ce)), (2, 4, Cont.top), (3, 0, Cont.cell (AV.int IntKind.i64 pm)), (3, 1, Cont.cell (AV.int IntKind.i64 pe)), (3, 2, Cont.cell (AV.int IntKind.i64 cm)), (3, 3, Cont.cell (AV.int IntKind.i64 ce)), (3, 4, Cont.top)], 76, 160⟩) (by kernel_rfl) (by kernel_rfl) ?_ ?_
      · show p ≠ 0
        omega
      rw [w1, w2, w3]
      refine evC_if (q := decide ((↑t : Int) < Int.tdiv (n + p - 1) p)) (by kernel_rfl) (fun hc => ?_) (fun hc => ?_)
      · have hlt := (tick_lt sn.1 q1 t).1 (of_decide_eq_true hc)
        clear hc
        obtain ⟨d1, d2⟩ := dn_next sn.1 q1 hlt
        have ht2 : t < 65535 := by
          have : (t : Int) * 1 ≤ (t : Int) * p := Int.mul_le_mul_of_nonneg_left q1 (Int.natCast_nonneg t)
          omega
        refine evC_skip ?_
        refine then_normal ?_
        refine evC_seq ?_
        refine evC_block ?_
        refine evC_seq ?_
        refine evC_go0 (dec := []) (ks := [(0, 2), (0, 3), (0, 4), (0, 6), (0, 9), (0, 10), (0, 84), (1, 0), (1, 1), (1, 2), (1, 3), (1, 4), (2, 0), (2, 1), (2, 2), (2, 3), (2, 4), (3, 0), (3, 1), (3, 2), (3, 3), (3, 4)]) (s' := ⟨[(0, 2, Cont.cell (AV.int IntKind.i64 p)), (0, 3, Cont.cell (AV.ptr 1 0)), (0, 4, Cont.cell (AV.ptr 2 0)), (0, 6, Cont.cell (AV.bool false)), (0, 9, Cont.cell (AV.ptr 3 0)), (0, 10, Cont.cell (AV.int IntKind.i64 (↑t : Int))), (0, 84, Cont.cell (AV.bool (dn n p t == n))), (1, 0, Cont.cell (AV.int IntKind.i64 m)), (1, 1, Cont.cell (AV.int IntKind.i64 en)), (1, 2, Cont.cell (AV.int IntKind.i64 n)), (1, 3, Cont.cell (AV.int IntKind.i64 (dn n p t))), (1, 4, Cont.top), (2, 0, Cont.cell (AV.int IntKind.i64 (pm - qd m (dn n p t) n))), (2, 1, Cont.cell (AV.int IntKind.i64 (pe - qd en (dn n p t) n))), (2, 2, Cont.cell (AV.int IntKind.i64 cm)), (2, 3, Cont.cell (AV.int IntKind.i64 ce)), (2, 4, Cont.top), (3, 0, Cont.cell (AV.int IntKind.i64 pm)), (3, 1, Cont.cell (AV.int IntKind.i64 pe)), (3, 2, Cont.cell (AV.int IntKind.i64 cm)), (3, 3, Cont.cell (AV.int IntKind.i64 ce)), (3, 4, Cont.top)], 116, 160⟩) (by kernel_rfl) (by kernel_rfl) ?_
        refine evC_if (q := dn n p t == n) (by kernel_rfl) (fun hc => ?_) (fun hc => ?_)
        · exfalso
          have : dn n p t = n := by simpa using hc
          omega
        clear hc
        have hd' := dn_rng sn.1 q1 (t + 1)
        have hmo : dn n p t ≤ dn n p (t + 1) := by rw [← d2]; unfold mn2; split <;> omega
        have c1 := qd_bound sm.1 hd'.1 sn.1 hd'.2
        have c2 := qd_bound se.1 hd'.1 sn.1 hd'.2
        have o1 := qd_mono sm.1 sn.1 hmo
        have o2 := qd_mono se.1 sn.1 hmo
        have hok : okF m en n (dn n p t) p = true := by
          unfold okF mayF
          rw [inR_of sm, inR_of se, inR_of sn, inR_of hd, inR_of ⟨by omega, q2⟩]; rfl
        have wp : IntKind.i64.wrap (dn n p t + p) = dn n p t + p := i64_in _ (by omega)
        have nx : ∀ c, (0 ≤ c ∧ c ≤ 65535) → 0 ≤ qd c (dn n p (t + 1)) n ∧ qd c (dn n p (t + 1)) n ≤ c → 0 ≤ qd c (dn n p t) n ∧ qd c (dn n p t) n ≤ c → nextF c n (dn n p t) p true = qd c (dn n p (t + 1)) n - qd c (dn n p t) n := by
          intro c hc h1 h2
          show IntKind.i64.wrap (partF c (mn2 n (IntKind.i64.wrap (dn n p t + p))) n - partF c (dn n p t) n) = _
          rw [wp, d2, part_eq hc hd'.1 hd'.2 sn, part_eq hc hd.1 hd.2 sn]
          exact i64_in _ (by omega)
        refine evC_skip ?_
        refine then_normal ?_
        refine evC_go0 (dec := []) (ks := [(0, 2), (0, 3), (0, 4), (0, 6), (0, 9), (0, 10), (0, 11), (0, 12), (1, 0), (1, 1), (1, 2), (1, 3), (1, 4), (2, 0), (2, 1), (2, 2), (2, 3), (2, 4), (3, 0), (3, 1), (3, 2), (3, 3), (3, 4), (164, 0), (164, 1), (164, 2)]) (s' := ⟨[(0, 2, Cont.cell (AV.int IntKind.i64 p)), (0, 3, Cont.cell (AV.ptr 1 0)), (0, 4, Cont.cell (AV.ptr 2 0)), (0, 6, Cont.cell (AV.bool false)), (0, 9, Cont.cell (AV.ptr 3 0)), (0, 10, Cont.cell (AV.int IntKind.i64 (↑t : Int))), (0, 11, Cont.cell (AV.ptr 164 0)), (0, 12, Cont.cell (AV.int IntKind.i64 (errF (okF m en n (dn n p t) p)))), (1, 0, Cont.cell (AV.int IntKind.i64 m)), (1, 1, Cont.cell (AV.int IntKind.i64 en)), (1, 2, Cont.cell (AV.int IntKind.i64 n)), (1, 3, Cont.cell (AV.int IntKind.i64 (dn n p t))), (1, 4, Cont.top), (2, 0, Cont.cell (AV.int IntKind.i64 (pm - qd m (dn n p t) n))), (2, 1, Cont.cell (AV.int IntKind.i64 (pe - qd en (dn n p t) n))), (2, 2, Cont.cell (AV.int IntKind.i64 cm)), (2, 3, Cont.cell (AV.int IntKind.i64 ce)), (2, 4, Cont.top), (3, 0, Cont.cell (AV.int IntKind.i64 pm)), (3, 1, Cont.cell (AV.int IntKind.i64 pe)), (3, 2, Cont.cell (AV.int IntKind.i64 cm)), (3, 3, Cont.cell (AV.int IntKind.i64 ce)), (3, 4, Cont.top), (164, 0, Cont.cell (AV.int IntKind.i64 (nextF m n (dn n p t) p (okF m en n (dn n p t) p)))), (164, 1, Cont.cell (AV.int IntKind.i64 (nextF en n (dn n p t) p (okF m en n (dn n p t) p)))), (164, 2, Cont.top)], 188, 160⟩) (by kernel_rfl) (by kernel_rfl) ?_
        rw [hok, nx m sm c1 b1, nx en se c2 b2]
        have mp : mayP (pm - qd m (dn n p t) n) (pe - qd en (dn n p t) n) cm ce = true := by
          unfold mayP
          rw [inR_of hq.1, inR_of hq.2.1, inR_of (x := pm - qd m (dn n p t) n) ⟨by omega, by omega⟩, inR_of (x := pe - qd en (dn n p t) n) ⟨by omega, by omega⟩]; rfl
        have wi : wishF (qd m (dn n p (t + 1)) n - qd m (dn n p t) n) (qd en (dn n p (t + 1)) n - qd en (dn n p t) n) = true := by
          unfold wishF
          rw [inR_of (x := qd m (dn n p (t + 1)) n - qd m (dn n p t) n) ⟨by omega, by omega⟩, inR_of (x := qd en (dn n p (t + 1)) n - qd en (dn n p t) n) ⟨by omega, by omega⟩]; rfl
        have hwok : wokF m en n (dn n p t) p 65536 = true := by
          unfold wokF
          rw [hok]; rfl
        have hmore : moreF p 65536 = p := part_whole ⟨by omega, by omega⟩
        have hdone : doneF n (dn n p t) p 65536 = dn n p (t + 1) := by
          unfold doneF
          rw [hmore, wp, d2]
        refine evC_go (dec := []) (ks := [(0, 2), (0, 3), (0, 4), (0, 6), (0, 9), (0, 10), (0, 11), (0, 12), (0, 13), (0, 14), (0, 15), (0, 16), (1, 0), (1, 1), (1, 2), (1, 3), (1, 4), (2, 0), (2, 1), (2, 2), (2, 3), (2, 4), (3, 0), (3, 1), (3, 2), (3, 3), (3, 4), (164, 0), (164, 1), (164, 2), (220, 0), (268, 0), (268, 1), (268, 2), (268, 3), (268, 4)]) (ps := [(1 : Nat) = (1 : Nat) ∧ pget [((0 : Nat), AV.agg [AV.int IntKind.i64 (qd m (dn n p (t + (1 : Nat))) n - qd m (dn n p t) n), AV.int IntKind.i64 (qd en (dn n p (t + (1 : Nat))) n - qd en (dn n p t) n)])] (0 : Nat) = wa (cv (0 : Nat) (pget [((0 : Nat), AV.agg [AV.int IntKind.i64 (qd m (dn n p (t + (1 : Nat))) n - qd m (dn n p t) n), AV.int IntKind.i64 (qd en (dn n p (t + (1 : Nat))) n - qd en (dn n p t) n)])] (0 : Nat))) (cv (1 : Nat) (pget [((0 : Nat), AV.agg [AV.int IntKind.i64 (qd m (dn n p (t + (1 : Nat))) n - qd m (dn n p t) n), AV.int IntKind.i64 (qd en (dn n p (t + (1 : Nat))) n - qd en (dn n p t) n)])] (0 : Nat))), mayP (pm - qd m (dn n p t) n) (pe - qd en (dn n p t) n) cm ce = true, wishF (cv (0 : Nat) (pget [((0 : Nat), AV.agg [AV.int IntKind.i64 (qd m (dn n p (t + (1 : Nat))) n - qd m (dn n p t) n), AV.int IntKind.i64 (qd en (dn n p (t + (1 : Nat))) n - qd en (dn n p t) n)])] (0 : Nat))) (cv (1 : Nat) (pget [((0 : Nat), AV.agg [AV.int IntKind.i64 (qd m (dn n p (t + (1 : Nat))) n - qd m (dn n p t) n), AV.int IntKind.i64 (qd en (dn n p (t + (1 : Nat))) n - qd en (dn n p t) n)])] (0 : Nat))) = true ∧ cv (0 : Nat) (pget [((0 : Nat), AV.agg [AV.int IntKind.i64 (qd m (dn n p (t + (1 : Nat))) n - qd m (dn n p t) n), AV.int IntKind.i64 (qd en (dn n p (t + (1 : Nat))) n - qd en (dn n p t) n)])] (0 : Nat)) ≤ pm - qd m (dn n p t) n ∧ cv (1 : Nat) (pget [((0 : Nat), AV.agg [AV.int IntKind.i64 (qd m (dn n p (t + (1 : Nat))) n - qd m (dn n p t) n), AV.int IntKind.i64 (qd en (dn n p (t + (1 : Nat))) n - qd en (dn n p t) n)])] (0 : Nat)) ≤ pe - qd en (dn n p t) n]) (s' := ⟨[(0, 2, Cont.cell (AV.int IntKind.i64 p)), (0, 3, Cont.cell (AV.ptr 1 0)), (0, 4, Cont.cell (AV.ptr 2 0)), (0, 6, Cont.cell (AV.bool false)), (0, 9, Cont.cell (AV.ptr 3 0)), (0, 10, Cont.cell (AV.int IntKind.i64 (↑t : Int))), (0, 11, Cont.cell (AV.ptr 164 0)), (0, 12, Cont.cell (AV.int IntKind.i64 (errF true))), (0, 13, Cont.cell (AV.ptr 268 0)), (0, 14, Cont.cell (AV.int IntKind.i64 65536)), (0, 15, Cont.cell (AV.vs 220)), (0, 16, Cont.cell (AV.int IntKind.i64 0)), (1, 0, Cont.cell (AV.int IntKind.i64 m)), (1, 1, Cont.cell (AV.int IntKind.i64 en)), (1, 2, Cont.cell (AV.int IntKind.i64 n)), (1, 3, Cont.cell (AV.int IntKind.i64 (dn n p t))), (1, 4, Cont.top), (2, 0, Cont.cell (AV.int IntKind.i64 (pm - qd m (dn n p t) n))), (2, 1, Cont.cell (AV.int IntKind.i64 (pe - qd en (dn n p t) n))), (2, 2, Cont.cell (AV.int IntKind.i64 cm)), (2, 3, Cont.cell (AV.int IntKind.i64 ce)), (2, 4, Cont.top), (3, 0, Cont.cell (AV.int IntKind.i64 pm)), (3, 1, Cont.cell (AV.int IntKind.i64 pe)), (3, 2, Cont.cell (AV.int IntKind.i64 cm)), (3, 3, Cont.cell (AV.int IntKind.i64 ce)), (3, 4, Cont.top), (164, 0, Cont.cell (AV.int IntKind.i64 (qd m (dn n p (t + 1)) n - qd m (dn n p t) n))), (164, 1, Cont.cell (AV.int IntKind.i64 (qd en (dn n p (t + 1)) n - qd en (dn n p t) n))), (164, 2, Cont.top), (220, 0, Cont.vec 2 50 1 fun x => wa (cv 0 (pget [(0, AV.agg [AV.int IntKind.i64 (qd m (dn n p (t + 1)) n - qd m (dn n p t) n), AV.int IntKind.i64 (qd en (dn n p (t + 1)) n - qd en (dn n p t) n)])] 0)) (cv 1 (pget [(0, AV.agg [AV.int IntKind.i64 (qd m (dn n p (t + 1)) n - qd m (dn n p t) n), AV.int IntKind.i64 (qd en (dn n p (t + 1)) n - qd en (dn n p t) n)])] 0))), (268, 0, Cont.cell (AV.int IntKind.i64 (pm - qd m (dn n p t) n - cv 0 (pget [(0, AV.agg [AV.int IntKind.i64 (qd m (dn n p (t + 1)) n - qd m (dn n p t) n), AV.int IntKind.i64 (qd en (dn n p (t + 1)) n - qd en (dn n p t) n)])] 0)))), (268, 1, Cont.cell (AV.int IntKind.i64 (pe - qd en (dn n p t) n - cv 1 (pget [(0, AV.agg [AV.int IntKind.i64 (qd m (dn n p (t + 1)) n - qd m (dn n p t) n), AV.int IntKind.i64 (qd en (dn n p (t + 1)) n - qd en (dn n p t) n)])] 0)))), (268, 2, Cont.cell (AV.int IntKind.i64 cm)), (268, 3, Cont.cell (AV.int IntKind.i64 ce)), (268, 4, Cont.top)], 308, 160⟩) (by kernel_rfl) (by kernel_rfl) ?_ ?_
        · refine ⟨⟨rfl, rfl⟩, mp, wi, ?_, ?_⟩
          · show qd m (dn n p (t + 1)) n - qd m (dn n p t) n ≤ pm - qd m (dn n p t) n
            omega
          · show qd en (dn n p (t + 1)) n - qd en (dn n p t) n ≤ pe - qd en (dn n p t) n
            omega
        refine evC_seq ?_
        refine evC_go (dec := []) (ks := [(0, 2), (0, 3), (0, 4), (0, 6), (0, 9), (0, 10), (0, 13), (0, 14), (0, 122), (1, 0), (1, 1), (1, 2), (1, 3), (1, 4), (2, 0), (2, 1), (2, 2), (2, 3), (2, 4), (3, 0), (3, 1), (3, 2), (3, 3), (3, 4), (268, 0), (268, 1), (268, 2), (268, 3), (268, 4)]) (ps := [List.all [!bif bif bif errF true != (0 : Int) then true else (0 : Int) != (0 : Int) then true else (65536 : Int) != (65536 : Int) then true else (↑(1 : Nat) : Int) != (1 : Int)] id = true → (0 : Int) ≤ (0 : Int), List.all [!bif bif bif errF true != (0 : Int) then true else (0 : Int) != (0 : Int) then true else (65536 : Int) != (65536 : Int) then true else (↑(1 : Nat) : Int) != (1 : Int)] id = true → (0 : Int) < (↑(1 : Nat) : Int), List.all [!bif bif bif errF true != (0 : Int) then true else (0 : Int) != (0 : Int) then true else (65536 : Int) != (65536 : Int) then true else (↑(1 : Nat) : Int) != (1 : Int)] id = true → (2 : Nat) = (2 : Nat), List.all [!bif bif bif errF true != (0 : Int) then true else (0 : Int) != (0 : Int) then true else (65536 : Int) != (65536 : Int) then true else (↑(1 : Nat) : Int) != (1 : Int)] id = true → (0 : Int) ≤ (0 : Int), List.all [!bif bif bif errF true != (0 : Int) then true else (0 : Int) != (0 : Int) then true else (65536 : Int) != (65536 : Int) then true else (↑(1 : Nat) : Int) != (1 : Int)] id = true → (0 : Int) < (↑(1 : Nat) : Int), List.all [!bif bif bif errF true != (0 : Int) then true else (0 : Int) != (0 : Int) then true else (65536 : Int) != (65536 : Int) then true else (↑(1 : Nat) : Int) != (1 : Int)] id = true → (2 : Nat) = (2 : Nat)]) (s' := ⟨[(0, 2, Cont.cell (AV.int IntKind.i64 p)), (0, 3, Cont.cell (AV.ptr 1 0)), (0, 4, Cont.cell (AV.ptr 2 0)), (0, 6, Cont.cell (AV.bool false)), (0, 9, Cont.cell (AV.ptr 3 0)), (0, 10, Cont.cell (AV.int IntKind.i64 (↑t : Int))), (0, 13, Cont.cell (AV.ptr 268 0)), (0, 14, Cont.cell (AV.int IntKind.i64 65536)), (0, 122, Cont.cell (AV.bool (bif bif bif bif errF true != 0 then true else 0 != 0 then true else 65536 != 65536 then true else (↑1 : Int) != 1 then true else !(cv 0 (pget [(0, AV.agg [AV.int IntKind.i64 (qd m (dn n p (t + 1)) n - qd m (dn n p t) n), AV.int IntKind.i64 (qd en (dn n p (t + 1)) n - qd en (dn n p t) n)])] 0) == qd m (dn n p (t + 1)) n - qd m (dn n p t) n && (cv 1 (pget [(0, AV.agg [AV.int IntKind.i64 (qd m (dn n p (t + 1)) n - qd m (dn n p t) n), AV.int IntKind.i64 (qd en (dn n p (t + 1)) n - qd en (dn n p t) n)])] 0) == qd en (dn n p (t + 1)) n - qd en (dn n p t) n && true))))), (1, 0, Cont.cell (AV.int IntKind.i64 m)), (1, 1, Cont.cell (AV.int IntKind.i64 en)), (1, 2, Cont.cell (AV.int IntKind.i64 n)), (1, 3, Cont.cell (AV.int IntKind.i64 (dn n p t))), (1, 4, Cont.top), (2, 0, Cont.cell (AV.int IntKind.i64 (pm - qd m (dn n p t) n))), (2, 1, Cont.cell (AV.int IntKind.i64 (pe - qd en (dn n p t) n))), (2, 2, Cont.cell (AV.int IntKind.i64 cm)), (2, 3, Cont.cell (AV.int IntKind.i64 ce)), (2, 4, Cont.top), (3, 0, Cont.cell (AV.int IntKind.i64 pm)), (3, 1, Cont.cell (AV.int IntKind.i64 pe)), (3, 2, Cont.cell (AV.int IntKind.i64 cm)), (3, 3, Cont.cell (AV.int IntKind.i64 ce)), (3, 4, Cont.top), (268, 0, Cont.cell (AV.int IntKind.i64 (pm - qd m (dn n p t) n - cv 0 (pget [(0, AV.agg [AV.int IntKind.i64 (qd m (dn n p (t + 1)) n - qd m (dn n p t) n), AV.int IntKind.i64 (qd en (dn n p (t + 1)) n - qd en (dn n p t) n)])] 0)))), (268, 1, Cont.cell (AV.int IntKind.i64 (pe - qd en (dn n p t) n - cv 1 (pget [(0, AV.agg [AV.int IntKind.i64 (qd m (dn n p (t + 1)) n - qd m (dn n p t) n), AV.int IntKind.i64 (qd en (dn n p (t + 1)) n - qd en (dn n p t) n)])] 0)))), (268, 2, Cont.cell (AV.int IntKind.i64 cm)), (268, 3, Cont.cell (AV.int IntKind.i64 ce)), (268, 4, Cont.top)], 484, 160⟩) (by kernel_rfl) (by kernel_rfl) ?_ ?_
        · (simp only [All]; (repeat' apply And.intro) <;> (try intro _) <;> (try intro _) <;> (repeat' apply And.intro) <;> (try intro _) <;> (try intro _) <;> first | trivial | assumption | exact .inr trivial | exact .inr rfl | omega | rfl | exact ⟨_, rfl, rfl⟩ | exact ⟨rfl, rfl⟩ | exact ⟨fun _ => rfl, fun _ => rfl⟩ | (unfold maxLen; omega) | (unfold i64R; first | omega | decide) | decide)
        refine evC_if (q := bif bif bif bif errF true != 0 then true else 0 != 0 then true else 65536 != 65536 then true else 1 != 1 then true else !(cv 0 (pget [(0, AV.agg [AV.int IntKind.i64 (qd m (dn n p (t + 1)) n - qd m (dn n p t) n), AV.int IntKind.i64 (qd en (dn n p (t + 1)) n - qd en (dn n p t) n)])] 0) == qd m (dn n p (t + 1)) n - qd m (dn n p t) n && (cv 1 (pget [(0, AV.agg [AV.int IntKind.i64 (qd m (dn n p (t + 1)) n - qd m (dn n p t) n), AV.int IntKind.i64 (qd en (dn n p (t + 1)) n - qd en (dn n p t) n)])] 0) == qd en (dn n p (t + 1)) n - qd en (dn n p t) n && true))) (by kernel_rfl) (fun hc => ?_) (fun hc => ?_)
        · exfalso
          simp [errF] at hc
          rcases hc with h | h <;> exact h rfl
        clear hc
        refine evC_skip ?_
        refine then_normal ?_
        refine evC_go0 (dec := []) (ks := [(0, 2), (0, 3), (0, 4), (0, 6), (0, 9), (0, 10), (0, 13), (0, 17), (0, 19), (1, 0), (1, 1), (1, 2), (1, 3), (1, 4), (2, 0), (2, 1), (2, 2), (2, 3), (2, 4), (3, 0), (3, 1), (3, 2), (3, 3), (3, 4), (268, 0), (268, 1), (268, 2), (268, 3), (268, 4), (548, 0), (548, 1), (548, 2), (548, 3), (548, 4)]) (s' := ⟨[(0, 2, Cont.cell (AV.int IntKind.i64 p)), (0, 3, Cont.cell (AV.ptr 1 0)), (0, 4, Cont.cell (AV.ptr 2 0)), (0, 6, Cont.cell (AV.bool false)), (0, 9, Cont.cell (AV.ptr 3 0)), (0, 10, Cont.cell (AV.int IntKind.i64 (↑t : Int))), (0, 13, Cont.cell (AV.ptr 268 0)), (0, 17, Cont.cell (AV.ptr 548 0)), (0, 19, Cont.cell (AV.int IntKind.i64 (errF (wokF m en n (dn n p t) p 65536)))), (1, 0, Cont.cell (AV.int IntKind.i64 m)), (1, 1, Cont.cell (AV.int IntKind.i64 en)), (1, 2, Cont.cell (AV.int IntKind.i64 n)), (1, 3, Cont.cell (AV.int IntKind.i64 (dn n p t))), (1, 4, Cont.top), (2, 0, Cont.cell (AV.int IntKind.i64 (pm - qd m (dn n p t) n))), (2, 1, Cont.cell (AV.int IntKind.i64 (pe - qd en (dn n p t) n))), (2, 2, Cont.cell (AV.int IntKind.i64 cm)), (2, 3, Cont.cell (AV.int IntKind.i64 ce)), (2, 4, Cont.top), (3, 0, Cont.cell (AV.int IntKind.i64 pm)), (3, 1, Cont.cell (AV.int IntKind.i64 pe)), (3, 2, Cont.cell (AV.int IntKind.i64 cm)), (3, 3, Cont.cell (AV.int IntKind.i64 ce)), (3, 4, Cont.top), (268, 0, Cont.cell (AV.int IntKind.i64 (pm - qd m (dn n p t) n - cv 0 (pget [(0, AV.agg [AV.int IntKind.i64 (qd m (dn n p (t + 1)) n - qd m (dn n p t) n), AV.int IntKind.i64 (qd en (dn n p (t + 1)) n - qd en (dn n p t) n)])] 0)))), (268, 1, Cont.cell (AV.int IntKind.i64 (pe - qd en (dn n p t) n - cv 1 (pget [(0, AV.agg [AV.int IntKind.i64 (qd m (dn n p (t + 1)) n - qd m (dn n p t) n), AV.int IntKind.i64 (qd en (dn n p (t + 1)) n - qd en (dn n p t) n)])] 0)))), (268, 2, Cont.cell (AV.int IntKind.i64 cm)), (268, 3, Cont.cell (AV.int IntKind.i64 ce)), (268, 4, Cont.top), (548, 0, Cont.cell (AV.int IntKind.i64 (bif wokF m en n (dn n p t) p 65536 then m else 0))), (548, 1, Cont.cell (AV.int IntKind.i64 (bif wokF m en n (dn n p t) p 65536 then en else 0))), (548, 2, Cont.cell (AV.int IntKind.i64 (bif wokF m en n (dn n p t) p 65536 then n else 0))), (548, 3, Cont.cell (AV.int IntKind.i64 (bif wokF m en n (dn n p t) p 65536 then doneF n (dn n p t) p 65536 else 0))), (548, 4, Cont.top)], 580, 160⟩) (by kernel_rfl) (by kernel_rfl) ?_
        rw [hwok, hdone]
        refine evC_seq ?_
        refine evC_go0 (dec := []) (ks := [(0, 2), (0, 3), (0, 4), (0, 6), (0, 9), (0, 10), (0, 13), (0, 17), (0, 132), (1, 0), (1, 1), (1, 2), (1, 3), (1, 4), (2, 0), (2, 1), (2, 2), (2, 3), (2, 4), (3, 0), (3, 1), (3, 2), (3, 3), (3, 4), (268, 0), (268, 1), (268, 2), (268, 3), (268, 4), (548, 0), (548, 1), (548, 2), (548, 3), (548, 4)]) (s' := ⟨[(0, 2, Cont.cell (AV.int IntKind.i64 p)), (0, 3, Cont.cell (AV.ptr 1 0)), (0, 4, Cont.cell (AV.ptr 2 0)), (0, 6, Cont.cell (AV.bool false)), (0, 9, Cont.cell (AV.ptr 3 0)), (0, 10, Cont.cell (AV.int IntKind.i64 (↑t : Int))), (0, 13, Cont.cell (AV.ptr 268 0)), (0, 17, Cont.cell (AV.ptr 548 0)), (0, 132, Cont.cell (AV.bool false)), (1, 0, Cont.cell (AV.int IntKind.i64 m)), (1, 1, Cont.cell (AV.int IntKind.i64 en)), (1, 2, Cont.cell (AV.int IntKind.i64 n)), (1, 3, Cont.cell (AV.int IntKind.i64 (dn n p t))), (1, 4, Cont.top), (2, 0, Cont.cell (AV.int IntKind.i64 (pm - qd m (dn n p t) n))), (2, 1, Cont.cell (AV.int IntKind.i64 (pe - qd en (dn n p t) n))), (2, 2, Cont.cell (AV.int IntKind.i64 cm)), (2, 3, Cont.cell (AV.int IntKind.i64 ce)), (2, 4, Cont.top), (3, 0, Cont.cell (AV.int IntKind.i64 pm)), (3, 1, Cont.cell (AV.int IntKind.i64 pe)), (3, 2, Cont.cell (AV.int IntKind.i64 cm)), (3, 3, Cont.cell (AV.int IntKind.i64 ce)), (3, 4, Cont.top), (268, 0, Cont.cell (AV.int IntKind.i64 (pm - qd m (dn n p t) n - cv 0 (pget [(0, AV.agg [AV.int IntKind.i64 (qd m (dn n p (t + 1)) n - qd m (dn n p t) n), AV.int IntKind.i64 (qd en (dn n p (t + 1)) n - qd en (dn n p t) n)])] 0)))), (268, 1, Cont.cell (AV.int IntKind.i64 (pe - qd en (dn n p t) n - cv 1 (pget [(0, AV.agg [AV.int IntKind.i64 (qd m (dn n p (t + 1)) n - qd m (dn n p t) n), AV.int IntKind.i64 (qd en (dn n p (t + 1)) n - qd en (dn n p t) n)])] 0)))), (268, 2, Cont.cell (AV.int IntKind.i64 cm)), (268, 3, Cont.cell (AV.int IntKind.i64 ce)), (268, 4, Cont.top), (548, 0, Cont.cell (AV.int IntKind.i64 m)), (548, 1, Cont.cell (AV.int IntKind.i64 en)), (548, 2, Cont.cell (AV.int IntKind.i64 n)), (548, 3, Cont.cell (AV.int IntKind.i64 (dn n p (t + 1)))), (548, 4, Cont.top)], 596, 160⟩) (by kernel_rfl) (by kernel_rfl) ?_
        refine evC_if (q := false) (by kernel_rfl) (fun hc => ?_) (fun hc => ?_)
        · exfalso
          simp [errF] at hc
        clear hc
        refine evC_skip ?_
        refine then_normal ?_
        refine evC_goL0 (dec := []) (ks := [(0, 2), (0, 3), (0, 4), (0, 6), (0, 9), (0, 10), (1, 0), (1, 1), (1, 2), (1, 3), (1, 4), (2, 0), (2, 1), (2, 2), (2, 3), (2, 4), (3, 0), (3, 1), (3, 2), (3, 3), (3, 4)]) (s' := ⟨[(0, 2, Cont.cell (AV.int IntKind.i64 p)), (0, 3, Cont.cell (AV.ptr 1 0)), (0, 4, Cont.cell (AV.ptr 2 0)), (0, 6, Cont.cell (AV.bool false)), (0, 9, Cont.cell (AV.ptr 3 0)), (0, 10, Cont.cell (AV.int IntKind.i64 (↑t : Int))), (1, 0, Cont.cell (AV.int IntKind.i64 m)), (1, 1, Cont.cell (AV.int IntKind.i64 en)), (1, 2, Cont.cell (AV.int IntKind.i64 n)), (1, 3, Cont.cell (AV.int IntKind.i64 (dn n p (t + 1)))), (1, 4, Cont.top), (2, 0, Cont.cell (AV.int IntKind.i64 (pm - qd m (dn n p t) n - cv 0 (pget [(0, AV.agg [AV.int IntKind.i64 (qd m (dn n p (t + 1)) n - qd m (dn n p t) n), AV.int IntKind.i64 (qd en (dn n p (t + 1)) n - qd en (dn n p t) n)])] 0)))), (2, 1, Cont.cell (AV.int IntKind.i64 (pe - qd en (dn n p t) n - cv 1 (pget [(0, AV.agg [AV.int IntKind.i64 (qd m (dn n p (t + 1)) n - qd m (dn n p t) n), AV.int IntKind.i64 (qd en (dn n p (t + 1)) n - qd en (dn n p t) n)])] 0)))), (2, 2, Cont.cell (AV.int IntKind.i64 cm)), (2, 3, Cont.cell (AV.int IntKind.i64 ce)), (2, 4, Cont.top), (3, 0, Cont.cell (AV.int IntKind.i64 pm)), (3, 1, Cont.cell (AV.int IntKind.i64 pe)), (3, 2, Cont.cell (AV.int IntKind.i64 cm)), (3, 3, Cont.cell (AV.int IntKind.i64 ce)), (3, 4, Cont.top)], 628, 160⟩) (by kernel_rfl) (by kernel_rfl) ?_
        refine block_normal ?_
        refine then_normal ?_
        refine evC_goL0 (dec := []) (ks := [(0, 2), (0, 3), (0, 4), (0, 6), (0, 9), (0, 10), (1, 0), (1, 1), (1, 2), (1, 3), (1, 4), (2, 0), (2, 1), (2, 2), (2, 3), (2, 4), (3, 0), (3, 1), (3, 2), (3, 3), (3, 4)]) (s' := ⟨[(0, 2, Cont.cell (AV.int IntKind.i64 p)), (0, 3, Cont.cell (AV.ptr 1 0)), (0, 4, Cont.cell (AV.ptr 2 0)), (0, 6, Cont.cell (AV.bool false)), (0, 9, Cont.cell (AV.ptr 3 0)), (0, 10, Cont.cell (AV.int IntKind.i64 (IntKind.i64.wrap ((↑t : Int) + 1)))), (1, 0, Cont.cell (AV.int IntKind.i64 m)), (1, 1, Cont.cell (AV.int IntKind.i64 en)), (1, 2, Cont.cell (AV.int IntKind.i64 n)), (1, 3, Cont.cell (AV.int IntKind.i64 (dn n p (t + 1)))), (1, 4, Cont.top), (2, 0, Cont.cell (AV.int IntKind.i64 (pm - qd m (dn n p t) n - cv 0 (pget [(0, AV.agg [AV.int IntKind.i64 (qd m (dn n p (t + 1)) n - qd m (dn n p t) n), AV.int IntKind.i64 (qd en (dn n p (t + 1)) n - qd en (dn n p t) n)])] 0)))), (2, 1, Cont.cell (AV.int IntKind.i64 (pe - qd en (dn n p t) n - cv 1 (pget [(0, AV.agg [AV.int IntKind.i64 (qd m (dn n p (t + 1)) n - qd m (dn n p t) n), AV.int IntKind.i64 (qd en (dn n p (t + 1)) n - qd en (dn n p t) n)])] 0)))), (2, 2, Cont.cell (AV.int IntKind.i64 cm)), (2, 3, Cont.cell (AV.int IntKind.i64 ce)), (2, 4, Cont.top), (3, 0, Cont.cell (AV.int IntKind.i64 pm)), (3, 1, Cont.cell (AV.int IntKind.i64 pe)), (3, 2, Cont.cell (AV.int IntKind.i64 cm)), (3, 3, Cont.cell (AV.int IntKind.i64 ce)), (3, 4, Cont.top)], 652, 160⟩) (by kernel_rfl) (by kernel_rfl) ?_
        rw [wrap_add_one (by omega : t < 65536) (by omega)]
        refine round_normal (⟨t + 1, by omega⟩) (wk_go [1, 2, 3] rfl (by decide) rfl rfl ⟨⟨_, rfl, rfl⟩, ⟨_, rfl, rfl⟩, ⟨_, rfl, rfl⟩, ⟨_, rfl, rfl⟩, ⟨_, rfl, rfl⟩, ⟨_, rfl, rfl⟩, ⟨_, rfl, rfl⟩, ⟨_, rfl, rfl⟩, ⟨_, rfl, rfl⟩, ⟨_, rfl, rfl⟩, ⟨_, rfl, trivial⟩, ⟨_, rfl, ?_⟩, ⟨_, rfl, ?_⟩, ⟨_, rfl, rfl⟩, ⟨_, rfl, rfl⟩, ⟨_, rfl, trivial⟩, ⟨_, rfl, rfl⟩, ⟨_, rfl, rfl⟩, ⟨_, rfl, rfl⟩, ⟨_, rfl, rfl⟩, ⟨_, rfl, trivial⟩, trivial⟩) ?_
        · refine congrArg (AV.int .i64) ?_
          show pm - qd m (dn n p t) n - (qd m (dn n p (t + 1)) n - qd m (dn n p t) n) = pm - qd m (dn n p (t + 1)) n
          omega
        · refine congrArg (AV.int .i64) ?_
          show pe - qd en (dn n p t) n - (qd en (dn n p (t + 1)) n - qd en (dn n p t) n) = pe - qd en (dn n p (t + 1)) n
          omega
        · show 65536 - (t + 1) < 65536 - t
          omega
      · have hge : ¬ (t : Int) * p < n := fun h => (of_decide_eq_false hc) ((tick_lt sn.1 q1 t).2 h)
        clear hc
        have hdn : dn n p t = n := by unfold dn mn2; split <;> omega
        rw [hdn, qd_all sn.1, qd_all sn.1]
        have v1 : IntKind.i64.wrap (pm - m) = pm - m := i64_in _ (by omega)
        have v2 : IntKind.i64.wrap (pe - en) = pe - en := i64_in _ (by omega)
        refine evC_exit ?_
        refine then_exit ?_
        refine round_exit ?_
        refine block_exit ?_
        refine then_normal ?_
        refine evC_go0 (dec := []) (ks := [(0, 6)]) (s' := ⟨[(0, 6, Cont.cell (AV.bool (bif bif n == n then pm - m == IntKind.i64.wrap (pm - m) else false then pe - en == IntKind.i64.wrap (pe - en) else false)))], 284, 160⟩) (by kernel_rfl) (by kernel_rfl) ?_
        refine evC_ret ?_
        refine post_ret ?_
        refine ends_flat (vs := [AV.bool (bif bif n == n then pm - m == IntKind.i64.wrap (pm - m) else false then pe - en == IntKind.i64.wrap (pe - en) else false)]) (Nat.zero_lt_succ _) (by kernel_rfl) (flat_of _ (by kernel_rfl)) rfl ?_
        rw [v1, v2]
        simp [oneAV]
  · cases e
end Go.Eng.S26
