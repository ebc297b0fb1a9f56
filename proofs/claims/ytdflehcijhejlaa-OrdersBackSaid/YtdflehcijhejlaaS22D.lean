/- Seat 22: the arena that orders look at, walked. -/
import Derived.Test.YtdflehcijhejlaaEngX
import Derived.Test.YtdflehcijhejlaaS22C
set_option linter.unusedSimpArgs false
set_option linter.unusedVariables false
namespace Go.Eng.S22
open Go.Proofs Go.IntWalk
set_option maxRecDepth 10000

/-- An arena. -/
def ar (F : Nat → Int) (G : Nat → Bool) : AV := .agg [.arr 64 fun i => .int .i64 (F i), .arr 64 fun i => .bool (G i)]
theorem ar_flat (F : Nat → Int) (G : Nat → Bool) : Flat (ar F G) := by
  refine .agg _ fun v hv => ?_
  rcases List.mem_cons.1 hv with rfl | hv
  · exact .arr _ _ fun i => .int _ _
  · rw [List.mem_singleton.1 hv]; exact .arr _ _ fun i => .bool _
def okP (F : Nat → Int) (G : Nat → Bool) (p : Nat) : Bool := decide (0 ≤ F p) && decide (F p ≤ 1048576) && (!G p || decide (1 ≤ F p))
def mayA (F : Nat → Int) (G : Nat → Bool) : Bool := (List.range 64).all (okP F G)
theorem may_get {F : Nat → Int} {G : Nat → Bool} (h : mayA F G = true) {p : Nat} (hp : p < 64) : 0 ≤ F p ∧ F p ≤ 1048576 ∧ (G p = true → 1 ≤ F p) := by
  have := all_get h hp
  simp only [okP, Bool.and_eq_true, decide_eq_true_eq, Bool.or_eq_true, Bool.not_eq_true'] at this
  refine ⟨this.1.1, this.1.2, fun hg => ?_⟩
  rcases this.2 with h | h
  · rw [hg] at h; cases h
  · exact h

def IsAr (f g : Nat → AV) : Prop := (∀ i, f i = .int .i64 (iv (f i))) ∧ ∀ i, g i = .bool (bv (g i))
theorem IsAr.eq {f g : Nat → AV} (h : IsAr f g) : (AV.agg [.arr 64 f, .arr 64 g]) = ar (fun i => iv (f i)) (fun i => bv (g i)) := by
  unfold ar
  rw [← funext h.1, ← funext h.2]

def sMay : Spec := fun args _ _ => match args with
  | [.agg [.arr 64 f, .arr 64 g]] => some ⟨[IsAr f g], .bool (mayA (fun i => iv (f i)) (fun i => bv (g i))), [], []⟩
  | _ => none
theorem bad_eq (a : Int) (g : Bool) : (bif bif decide (a < 0) then true else decide (a > 1048576) then true else bif g then a == 0 else false) = !(decide (0 ≤ a) && decide (a ≤ 1048576) && (!g || decide (1 ≤ a))) := by
  by_cases h0 : a < 0
  · have : ¬ 0 ≤ a := by omega
    simp [h0, this]
  · have h1 : 0 ≤ a := by omega
    by_cases h2 : a > 1048576
    · have : ¬ a ≤ 1048576 := by omega
      simp [h0, h2, this]
    · have h3 : a ≤ 1048576 := by omega
      cases g with
      | false => simp [h0, h1, h2, h3]
      | true =>
        by_cases h4 : a = 0
        · subst h4; decide
        · have h5 : 1 ≤ a := by omega
          simp [h0, h1, h2, h3, h4, h5]
theorem bad_eq' (a : Int) (g : Bool) : (bif bif decide (a < 0) then true else decide (a > 1048576) then true else bif g then decide (a < 1) else false) = !(decide (0 ≤ a) && decide (a ≤ 1048576) && (!g || decide (1 ≤ a))) := by
  rw [← bad_eq]
  by_cases h0 : a < 0
  · simp [h0]
  · cases g with
    | false => rfl
    | true =>
      have : decide (a < 1) = (a == 0) := by
        rw [Bool.eq_iff_iff]; simp; omega
      rw [this]
theorem may_ok : SpecOK Try.prog 36 sMay := by
  refine spec_own (by kernel_rfl) T_ok sget_nil Try.func36 rfl rfl fun args hr nb out e => ?_
  unfold sMay at e
  split at e
  · rename_i f g
    injection e with e; subst e
    refine ⟨(fun _ h => nomatch h), true, [ar (fun i => iv (f i)) (fun i => bv (g i))], rfl, fun hs => ?_⟩
    have ha := hs _ List.mem_cons_self
    rw [ha.eq]
    generalize (fun i => iv (f i)) = F
    generalize (fun i => bv (g i)) = G
    refine ⟨.cons _ _ _ _ (.same _ _ (ar_flat F G).has) .nil, ?_⟩
    clear hs
    refine evC_go0 (dec := []) (ks := [(0, 1), (0, 2), (1, 0), (1, 64), (1, 128)]) (s' := ⟨[(0, 1, Cont.cell (AV.ptr 1 0)), (0, 2, Cont.cell (AV.bool false)), (1, 0, Cont.arr 64 fun i => AV.int IntKind.i64 (F i)), (1, 64, Cont.arr 64 fun i => AV.bool (G i)), (1, 128, Cont.top)], 17, 28⟩) (by kernel_rfl) (by kernel_rfl) ?_
    refine evC_seq ?_
    refine evC_go0 (dec := []) (ks := [(0, 1), (0, 2), (0, 6), (0, 7), (1, 0), (1, 64), (1, 128)]) (s' := ⟨[(0, 1, Cont.cell (AV.ptr 1 0)), (0, 2, Cont.cell (AV.bool false)), (0, 6, Cont.cell (AV.agg [AV.arr 64 fun i => AV.int IntKind.i64 (F i)])), (0, 7, Cont.cell (AV.int IntKind.i64 0)), (1, 0, Cont.arr 64 fun i => AV.int IntKind.i64 (F i)), (1, 64, Cont.arr 64 fun i => AV.bool (G i)), (1, 128, Cont.top)], 41, 28⟩) (by kernel_rfl) (by kernel_rfl) ?_
    refine evC_block ?_
    refine evC_loop (ι := { i : Nat // i ≤ 64 ∧ ∀ j, j < i → okP F G j = true }) (fun x => ⟨[(0, 1, Cont.cell (AV.ptr 1 0)), (0, 2, Cont.cell (AV.bool false)), (0, 6, Cont.cell (AV.agg [AV.arr 64 fun i => AV.int IntKind.i64 (F i)])), (0, 7, .cell (.int .i64 (x.1 : Nat))), (1, 0, Cont.arr 64 fun i => AV.int IntKind.i64 (F i)), (1, 64, Cont.arr 64 fun i => AV.bool (G i)), (1, 128, Cont.top)], 2, 28⟩) (fun x => 64 - x.1) ⟨0, Nat.zero_le _, fun j hj => absurd hj (Nat.not_lt_zero j)⟩ (wk_go [1] rfl (by decide) rfl rfl ⟨⟨_, rfl, rfl⟩, ⟨_, rfl, rfl⟩, ⟨_, rfl, rfl⟩, ⟨_, rfl, rfl⟩, ⟨_, rfl, rfl, fun _ _ => rfl⟩, ⟨_, rfl, rfl, fun _ _ => rfl⟩, ⟨_, rfl, trivial⟩, trivial⟩) ?_
    rintro ⟨i, hi, hj⟩
    refine evC_go0 (dec := []) (ks := [(0, 1), (0, 2), (0, 6), (0, 7), (0, 8), (1, 0), (1, 64), (1, 128)]) (s' := ⟨[(0, 1, Cont.cell (AV.ptr 1 0)), (0, 2, Cont.cell (AV.bool false)), (0, 6, Cont.cell (AV.agg [AV.arr 64 fun i => AV.int IntKind.i64 (F i)])), (0, 7, Cont.cell (AV.int IntKind.i64 (↑i : Int))), (0, 8, Cont.cell (AV.bool (decide ((↑i : Int) < 64)))), (1, 0, Cont.arr 64 fun i => AV.int IntKind.i64 (F i)), (1, 64, Cont.arr 64 fun i => AV.bool (G i)), (1, 128, Cont.top)], 10, 28⟩) (by kernel_rfl) (by kernel_rfl) ?_
    refine evC_seq ?_
    refine evC_if (q := decide ((↑i : Int) < 64)) (by kernel_rfl) (fun hc => ?_) (fun hc => ?_)
    · have hlt : i < 64 := by have := of_decide_eq_true hc; omega
      clear hc
      refine evC_skip ?_
      refine then_normal ?_
      refine evC_seq ?_
      refine evC_block ?_
      refine evC_go (dec := []) (ks := [(0, 1), (0, 2), (0, 3), (0, 4), (0, 6), (0, 7), (1, 0), (1, 64), (1, 128)]) (ps := [(0 : Int) ≤ (↑i : Int), (↑i : Int) < (↑(64 : Nat) : Int)]) (s' := ⟨[(0, 1, Cont.cell (AV.ptr 1 0)), (0, 2, Cont.cell (AV.bool false)), (0, 3, Cont.cell (AV.int IntKind.i64 (↑i : Int))), (0, 4, Cont.cell (AV.int IntKind.i64 (F i))), (0, 6, Cont.cell (AV.agg [AV.arr 64 fun i => AV.int IntKind.i64 (F i)])), (0, 7, Cont.cell (AV.int IntKind.i64 (↑i : Int))), (1, 0, Cont.arr 64 fun i => AV.int IntKind.i64 (F i)), (1, 64, Cont.arr 64 fun i => AV.bool (G i)), (1, 128, Cont.top)], 42, 28⟩) (by kernel_rfl) (by kernel_rfl) ?_ ?_
      · (simp only [All]; (repeat' apply And.intro) <;> (try intro _) <;> (try intro _) <;> (repeat' apply And.intro) <;> (try intro _) <;> (try intro _) <;> first | trivial | assumption | exact .inr trivial | exact .inr rfl | omega | rfl | exact ⟨_, rfl, rfl⟩ | exact ⟨rfl, rfl⟩ | exact ⟨fun _ => rfl, fun _ => rfl⟩ | (unfold maxLen; omega) | (unfold i64R; first | omega | decide) | decide)
      refine evC_go (dec := []) (ks := [(0, 1), (0, 2), (0, 6), (0, 7), (0, 26), (1, 0), (1, 64), (1, 128)]) (ps := [List.all [!bif decide (F i < (0 : Int)) then true else decide (F i > (1048576 : Int))] id = true → (0 : Int) ≤ (↑i : Int), List.all [!bif decide (F i < (0 : Int)) then true else decide (F i > (1048576 : Int))] id = true → (↑i : Int) < (↑(64 : Nat) : Int), List.all [!bif decide (F i < (0 : Int)) then true else decide (F i > (1048576 : Int))] id = true → (0 : Int) ≤ (↑i : Int), List.all [!bif decide (F i < (0 : Int)) then true else decide (F i > (1048576 : Int))] id = true → (↑i : Int) < (↑(64 : Nat) : Int)]) (s' := ⟨[(0, 1, Cont.cell (AV.ptr 1 0)), (0, 2, Cont.cell (AV.bool false)), (0, 6, Cont.cell (AV.agg [AV.arr 64 fun i => AV.int IntKind.i64 (F i)])), (0, 7, Cont.cell (AV.int IntKind.i64 (↑i : Int))), (0, 26, Cont.cell (AV.bool (bif bif decide (F i < 0) then true else decide (F i > 1048576) then true else bif G i then F i == 0 else false))), (1, 0, Cont.arr 64 fun i => AV.int IntKind.i64 (F i)), (1, 64, Cont.arr 64 fun i => AV.bool (G i)), (1, 128, Cont.top)], 170, 28⟩) (by kernel_rfl) (by kernel_rfl) ?_ ?_
      · (simp only [All]; (repeat' apply And.intro) <;> (try intro _) <;> (try intro _) <;> (repeat' apply And.intro) <;> (try intro _) <;> (try intro _) <;> first | trivial | assumption | exact .inr trivial | exact .inr rfl | omega | rfl | exact ⟨_, rfl, rfl⟩ | exact ⟨rfl, rfl⟩ | exact ⟨fun _ => rfl, fun _ => rfl⟩ | (unfold maxLen; omega) | (unfold i64R; first | omega | decide) | decide)
      simp only [Int.toNat_natCast]
      rw [bad_eq]
      refine evC_if (q := !(decide (0 ≤ F i) && decide (F i ≤ 1048576) && (!G i || decide (1 ≤ F i)))) (by kernel_rfl) (fun hc => ?_) (fun hc => ?_)
      · have hf : okP F G i = false := (Bool.not_eq_true' _).mp hc
        refine evC_go0 (dec := []) (ks := [(0, 1), (0, 2), (0, 6), (0, 7), (1, 0), (1, 64), (1, 128)]) (s' := ⟨[(0, 1, Cont.cell (AV.ptr 1 0)), (0, 2, Cont.cell (AV.bool false)), (0, 6, Cont.cell (AV.agg [AV.arr 64 fun i => AV.int IntKind.i64 (F i)])), (0, 7, Cont.cell (AV.int IntKind.i64 (↑i : Int))), (1, 0, Cont.arr 64 fun i => AV.int IntKind.i64 (F i)), (1, 64, Cont.arr 64 fun i => AV.bool (G i)), (1, 128, Cont.top)], 178, 28⟩) (by kernel_rfl) (by kernel_rfl) ?_
        refine evC_ret ?_
        refine block_ret ?_
        refine then_ret ?_
        refine round_ret ?_
        refine block_ret ?_
        refine then_ret ?_
        refine post_ret ?_
        refine ends_flat (vs := [AV.bool false]) (Nat.zero_lt_succ _) (by kernel_rfl) (flat_of _ (by kernel_rfl)) rfl ?_
        have : mayA F G = false := all_false hlt hf
        rw [this]; rfl
      · have hf : okP F G i = true := (Bool.not_eq_false' _).mp hc
        refine evC_skip ?_
        refine block_normal ?_
        refine then_normal ?_
        refine evC_goL0 (dec := []) (ks := [(0, 1), (0, 2), (0, 6), (0, 7), (1, 0), (1, 64), (1, 128)]) (s' := ⟨[(0, 1, Cont.cell (AV.ptr 1 0)), (0, 2, Cont.cell (AV.bool false)), (0, 6, Cont.cell (AV.agg [AV.arr 64 fun i => AV.int IntKind.i64 (F i)])), (0, 7, Cont.cell (AV.int IntKind.i64 (IntKind.i64.wrap ((↑i : Int) + 1)))), (1, 0, Cont.arr 64 fun i => AV.int IntKind.i64 (F i)), (1, 64, Cont.arr 64 fun i => AV.bool (G i)), (1, 128, Cont.top)], 186, 28⟩) (by kernel_rfl) (by kernel_rfl) ?_
        rw [wrap_add_one hlt (by omega)]
        refine round_normal (⟨i + 1, by omega, fun j hj' => ?_⟩) (wk_go [1] rfl (by decide) rfl rfl ⟨⟨_, rfl, rfl⟩, ⟨_, rfl, rfl⟩, ⟨_, rfl, rfl⟩, ⟨_, rfl, rfl⟩, ⟨_, rfl, ⟨rfl, fun _ _ => rfl⟩⟩, ⟨_, rfl, ⟨rfl, fun _ _ => rfl⟩⟩, ⟨_, rfl, trivial⟩, trivial⟩) ?_
        · rcases Nat.lt_or_ge j i with h | h
          · exact hj j h
          · have : j = i := by omega
            subst this; exact hf
        · show 64 - (i + 1) < 64 - i; omega
    · have hlt : i = 64 := by have := of_decide_eq_false hc; omega
      subst hlt
      refine evC_exit ?_
      refine then_exit ?_
      refine round_exit ?_
      refine block_exit ?_
      refine then_normal ?_
      refine evC_go0 (dec := []) (ks := [(0, 2)]) (s' := ⟨[(0, 2, Cont.cell (AV.bool true))], 18, 28⟩) (by kernel_rfl) (by kernel_rfl) ?_
      refine evC_ret ?_
      refine post_ret ?_
      refine ends_flat (vs := [AV.bool true]) (Nat.zero_lt_succ _) (by kernel_rfl) (flat_of _ (by kernel_rfl)) rfl ?_
      have : mayA F G = true := all_true hj
      rw [this]; rfl
  · cases e

theorem refMay_ok : SpecOK Try.prog 32 sMay := by
  refine spec_own (by kernel_rfl) T_ok sget_nil Try.func32 rfl rfl fun args hr nb out e => ?_
  unfold sMay at e
  split at e
  · rename_i f g
    injection e with e; subst e
    refine ⟨(fun _ h => nomatch h), true, [ar (fun i => iv (f i)) (fun i => bv (g i))], rfl, fun hs => ?_⟩
    have ha := hs _ List.mem_cons_self
    rw [ha.eq]
    generalize (fun i => iv (f i)) = F
    generalize (fun i => bv (g i)) = G
    refine ⟨.cons _ _ _ _ (.same _ _ (ar_flat F G).has) .nil, ?_⟩
    clear hs
    refine evC_go0 (dec := []) (ks := [(0, 1), (0, 2), (1, 0), (1, 64), (1, 128)]) (s' := ⟨[(0, 1, Cont.cell (AV.ptr 1 0)), (0, 2, Cont.cell (AV.bool false)), (1, 0, Cont.arr 64 fun i => AV.int IntKind.i64 (F i)), (1, 64, Cont.arr 64 fun i => AV.bool (G i)), (1, 128, Cont.top)], 17, 33⟩) (by kernel_rfl) (by kernel_rfl) ?_
    refine evC_seq ?_
    refine evC_go0 (dec := []) (ks := [(0, 1), (0, 2), (0, 3), (1, 0), (1, 64), (1, 128)]) (s' := ⟨[(0, 1, Cont.cell (AV.ptr 1 0)), (0, 2, Cont.cell (AV.bool false)), (0, 3, Cont.cell (AV.int IntKind.i64 0)), (1, 0, Cont.arr 64 fun i => AV.int IntKind.i64 (F i)), (1, 64, Cont.arr 64 fun i => AV.bool (G i)), (1, 128, Cont.top)], 25, 33⟩) (by kernel_rfl) (by kernel_rfl) ?_
    refine evC_block ?_
    refine evC_loop (ι := { i : Nat // i ≤ 64 ∧ ∀ j, j < i → okP F G j = true }) (fun x => ⟨[(0, 1, Cont.cell (AV.ptr 1 0)), (0, 2, Cont.cell (AV.bool false)), (0, 3, .cell (.int .i64 (x.1 : Nat))), (1, 0, Cont.arr 64 fun i => AV.int IntKind.i64 (F i)), (1, 64, Cont.arr 64 fun i => AV.bool (G i)), (1, 128, Cont.top)], 2, 33⟩) (fun x => 64 - x.1) ⟨0, Nat.zero_le _, fun j hj => absurd hj (Nat.not_lt_zero j)⟩ (wk_go [1] rfl (by decide) rfl rfl ⟨⟨_, rfl, rfl⟩, ⟨_, rfl, rfl⟩, ⟨_, rfl, rfl⟩, ⟨_, rfl, rfl, fun _ _ => rfl⟩, ⟨_, rfl, rfl, fun _ _ => rfl⟩, ⟨_, rfl, trivial⟩, trivial⟩) ?_
    rintro ⟨i, hi, hj⟩
    refine evC_seq ?_
    refine evC_go0 (dec := []) (ks := [(0, 1), (0, 2), (0, 3), (0, 5), (1, 0), (1, 64), (1, 128)]) (s' := ⟨[(0, 1, Cont.cell (AV.ptr 1 0)), (0, 2, Cont.cell (AV.bool false)), (0, 3, Cont.cell (AV.int IntKind.i64 (↑i : Int))), (0, 5, Cont.cell (AV.bool (decide ((↑i : Int) < 64)))), (1, 0, Cont.arr 64 fun i => AV.int IntKind.i64 (F i)), (1, 64, Cont.arr 64 fun i => AV.bool (G i)), (1, 128, Cont.top)], 18, 33⟩) (by kernel_rfl) (by kernel_rfl) ?_
    refine evC_if (q := decide ((↑i : Int) < 64)) (by kernel_rfl) (fun hc => ?_) (fun hc => ?_)
    · have hlt : i < 64 := by have := of_decide_eq_true hc; omega
      clear hc
      refine evC_skip ?_
      refine then_normal ?_
      refine evC_seq ?_
      refine evC_block ?_
      refine evC_go (dec := []) (ks := [(0, 1), (0, 2), (0, 3), (0, 32), (1, 0), (1, 64), (1, 128)]) (ps := [(0 : Int) ≤ (↑i : Int), (↑i : Int) < (↑(64 : Nat) : Int), (0 : Int) ≤ (↑i : Int), (↑i : Int) < (↑(64 : Nat) : Int), List.all [!decide (F i < (0 : Int))] id = true → (0 : Int) ≤ (↑i : Int), List.all [!decide (F i < (0 : Int))] id = true → (↑i : Int) < (↑(64 : Nat) : Int), List.all [!decide (F i < (0 : Int))] id = true → (0 : Int) ≤ (↑i : Int), List.all [!decide (F i < (0 : Int))] id = true → (↑i : Int) < (↑(64 : Nat) : Int), List.all [!bif decide (F i < (0 : Int)) then true else decide (F i > (1048576 : Int))] id = true → (0 : Int) ≤ (↑i : Int), List.all [!bif decide (F i < (0 : Int)) then true else decide (F i > (1048576 : Int))] id = true → (↑i : Int) < (↑(64 : Nat) : Int), List.all [!bif decide (F i < (0 : Int)) then true else decide (F i > (1048576 : Int))] id = true → (0 : Int) ≤ (↑i : Int), List.all [!bif decide (F i < (0 : Int)) then true else decide (F i > (1048576 : Int))] id = true → (↑i : Int) < (↑(64 : Nat) : Int), List.all [G i, !bif decide (F i < (0 : Int)) then true else decide (F i > (1048576 : Int))] id = true → (0 : Int) ≤ (↑i : Int), List.all [G i, !bif decide (F i < (0 : Int)) then true else decide (F i > (1048576 : Int))] id = true → (↑i : Int) < (↑(64 : Nat) : Int), List.all [G i, !bif decide (F i < (0 : Int)) then true else decide (F i > (1048576 : Int))] id = true → (0 : Int) ≤ (↑i : Int), List.all [G i, !bif decide (F i < (0 : Int)) then true else decide (F i > (1048576 : Int))] id = true → (↑i : Int) < (↑(64 : Nat) : Int)]) (s' := ⟨[(0, 1, Cont.cell (AV.ptr 1 0)), (0, 2, Cont.cell (AV.bool false)), (0, 3, Cont.cell (AV.int IntKind.i64 (↑i : Int))), (0, 32, Cont.cell (AV.bool (bif bif decide (F i < 0) then true else decide (F i > 1048576) then true else bif G i then decide (F i < 1) else false))), (1, 0, Cont.arr 64 fun i => AV.int IntKind.i64 (F i)), (1, 64, Cont.arr 64 fun i => AV.bool (G i)), (1, 128, Cont.top)], 218, 33⟩) (by kernel_rfl) (by kernel_rfl) ?_ ?_
      · (simp only [All]; (repeat' apply And.intro) <;> (try intro _) <;> (try intro _) <;> (repeat' apply And.intro) <;> (try intro _) <;> (try intro _) <;> first | trivial | assumption | exact .inr trivial | exact .inr rfl | omega | rfl | exact ⟨_, rfl, rfl⟩ | exact ⟨rfl, rfl⟩ | exact ⟨fun _ => rfl, fun _ => rfl⟩ | (unfold maxLen; omega) | (unfold i64R; first | omega | decide) | decide)
      simp only [Int.toNat_natCast]
      rw [bad_eq']
      refine evC_if (q := !(decide (0 ≤ F i) && decide (F i ≤ 1048576) && (!G i || decide (1 ≤ F i)))) (by kernel_rfl) (fun hc => ?_) (fun hc => ?_)
      · have hf : okP F G i = false := (Bool.not_eq_true' _).mp hc
        refine evC_go0 (dec := []) (ks := [(0, 1), (0, 2), (0, 3), (1, 0), (1, 64), (1, 128)]) (s' := ⟨[(0, 1, Cont.cell (AV.ptr 1 0)), (0, 2, Cont.cell (AV.bool false)), (0, 3, Cont.cell (AV.int IntKind.i64 (↑i : Int))), (1, 0, Cont.arr 64 fun i => AV.int IntKind.i64 (F i)), (1, 64, Cont.arr 64 fun i => AV.bool (G i)), (1, 128, Cont.top)], 226, 33⟩) (by kernel_rfl) (by kernel_rfl) ?_
        refine evC_ret ?_
        refine block_ret ?_
        refine then_ret ?_
        refine round_ret ?_
        refine block_ret ?_
        refine then_ret ?_
        refine post_ret ?_
        refine ends_flat (vs := [AV.bool false]) (Nat.zero_lt_succ _) (by kernel_rfl) (flat_of _ (by kernel_rfl)) rfl ?_
        have : mayA F G = false := all_false hlt hf
        rw [this]; rfl
      · have hf : okP F G i = true := (Bool.not_eq_false' _).mp hc
        refine evC_skip ?_
        refine block_normal ?_
        refine then_normal ?_
        refine evC_goL0 (dec := []) (ks := [(0, 1), (0, 2), (0, 3), (1, 0), (1, 64), (1, 128)]) (s' := ⟨[(0, 1, Cont.cell (AV.ptr 1 0)), (0, 2, Cont.cell (AV.bool false)), (0, 3, Cont.cell (AV.int IntKind.i64 (IntKind.i64.wrap ((↑i : Int) + 1)))), (1, 0, Cont.arr 64 fun i => AV.int IntKind.i64 (F i)), (1, 64, Cont.arr 64 fun i => AV.bool (G i)), (1, 128, Cont.top)], 242, 33⟩) (by kernel_rfl) (by kernel_rfl) ?_
        rw [wrap_add_one hlt (by omega)]
        refine round_normal (⟨i + 1, by omega, fun j hj' => ?_⟩) (wk_go [1] rfl (by decide) rfl rfl ⟨⟨_, rfl, rfl⟩, ⟨_, rfl, rfl⟩, ⟨_, rfl, rfl⟩, ⟨_, rfl, ⟨rfl, fun _ _ => rfl⟩⟩, ⟨_, rfl, ⟨rfl, fun _ _ => rfl⟩⟩, ⟨_, rfl, trivial⟩, trivial⟩) ?_
        · rcases Nat.lt_or_ge j i with h | h
          · exact hj j h
          · have : j = i := by omega
            subst this; exact hf
        · show 64 - (i + 1) < 64 - i; omega
    · have hlt : i = 64 := by have := of_decide_eq_false hc; omega
      subst hlt
      refine evC_exit ?_
      refine then_exit ?_
      refine round_exit ?_
      refine block_exit ?_
      refine then_normal ?_
      refine evC_go0 (dec := []) (ks := [(0, 2)]) (s' := ⟨[(0, 2, Cont.cell (AV.bool true))], 26, 33⟩) (by kernel_rfl) (by kernel_rfl) ?_
      refine evC_ret ?_
      refine post_ret ?_
      refine ends_flat (vs := [AV.bool true]) (Nat.zero_lt_succ _) (by kernel_rfl) (flat_of _ (by kernel_rfl)) rfl ?_
      have : mayA F G = true := all_true hj
      rw [this]; rfl
  · cases e

/-! Places. -/
def plF (id : Int) : Int := id % 64
theorem plF_range (id : Int) : 0 ≤ plF id ∧ plF id < 64 := ⟨Int.emod_nonneg _ (by omega), Int.emod_lt_of_pos _ (by omega)⟩
theorem and63 (a : Int) : IntKind.i64.wrap ((BitVec.ofInt IntKind.i64.bits a &&& BitVec.ofInt IntKind.i64.bits 63).toNat : Int) = plF a := by
  have e : (BitVec.ofInt IntKind.i64.bits 63) = (63#64 : BitVec 64) := rfl
  have h1 : (BitVec.ofInt IntKind.i64.bits a &&& BitVec.ofInt IntKind.i64.bits 63).toNat = (BitVec.ofInt 64 a).toNat % 64 := by
    rw [e]
    show (BitVec.ofInt 64 a &&& 63#64).toNat = _
    rw [BitVec.toNat_and]
    exact Nat.and_two_pow_sub_one_eq_mod _ 6
  rw [h1, BitVec.toNat_ofInt]
  have h2 : (((a % ((2 ^ 64 : Nat) : Int)).toNat % 64 : Nat) : Int) = plF a := by
    have h3 : 0 ≤ a % ((2 ^ 64 : Nat) : Int) := Int.emod_nonneg _ (by decide)
    rw [Int.natCast_emod, Int.toNat_of_nonneg h3]
    exact Int.emod_emod_of_dvd a ⟨2 ^ 58, by decide⟩
  rw [h2, i64_in _ (by have := plF_range a; omega)]
theorem rem64 (a : Int) : (if a.tmod 64 < 0 then a.tmod 64 + 64 else a.tmod 64) = plF a := by
  unfold plF
  by_cases h : 0 ≤ a
  · have : a.tmod 64 = a % 64 := Int.tmod_eq_emod_of_nonneg h
    rw [this]
    have := Int.emod_nonneg a (b := 64) (by omega)
    rw [if_neg (by omega)]
  · have e : a.tmod 64 = -((-a) % 64) := by
      rw [← Int.tmod_eq_emod_of_nonneg (by omega : 0 ≤ -a), Int.neg_tmod]; omega
    rw [e]
    have h1 := Int.emod_nonneg (-a) (b := 64) (by omega)
    have h2 := Int.emod_lt_of_pos (-a) (b := 64) (by omega)
    split <;> omega
def sPlace : Spec := fun args _ _ => match args with
  | [.int .i64 id] => some ⟨[], .int .i64 (plF id), [], []⟩
  | _ => none
theorem place_ok : SpecOK Try.prog 30 sPlace := by
  refine spec_own (by kernel_rfl) T_ok sget_nil Try.func30 rfl rfl fun args hr nb out e => ?_
  unfold sPlace at e
  split at e
  · rename_i id
    injection e with e; subst e
    refine ⟨(fun _ h => nomatch h), true, [.int .i64 id], rfl, fun _ => ⟨.cons _ _ _ _ (.same _ _ (.int _ _)) .nil, ?_⟩⟩
    refine evC_go0 (dec := []) (ks := [(0, 0), (0, 2)]) (s' := ⟨[(0, 0, Cont.cell (AV.int IntKind.i64 id)), (0, 2, Cont.cell (AV.int IntKind.i64 0))], 9, 5⟩) (by kernel_rfl) (by kernel_rfl) ?_
    refine evC_go0 (dec := []) (ks := [(0, 2)]) (s' := ⟨[(0, 2, Cont.cell (AV.int IntKind.i64 (IntKind.i64.wrap (↑(BitVec.toNat (BitVec.ofInt (IntKind.bits IntKind.i64) id &&& BitVec.ofInt (IntKind.bits IntKind.i64) 63)) : Int))))], 33, 5⟩) (by kernel_rfl) (by kernel_rfl) ?_
    refine evC_ret ?_
    refine post_ret ?_
    refine ends_flat (vs := [AV.int IntKind.i64 (IntKind.i64.wrap (↑(BitVec.toNat (BitVec.ofInt (IntKind.bits IntKind.i64) id &&& BitVec.ofInt (IntKind.bits IntKind.i64) 63)) : Int))]) (Nat.zero_lt_succ _) (by kernel_rfl) (flat_of _ (by kernel_rfl)) rfl ?_
    rw [and63]; rfl
  · cases e
theorem refPlace_ok : SpecOK Try.prog 34 sPlace := by
  refine spec_own (by kernel_rfl) T_ok sget_nil Try.func34 rfl rfl fun args hr nb out e => ?_
  unfold sPlace at e
  split at e
  · rename_i id
    injection e with e; subst e
    refine ⟨(fun _ h => nomatch h), true, [.int .i64 id], rfl, fun _ => ⟨.cons _ _ _ _ (.same _ _ (.int _ _)) .nil, ?_⟩⟩
    have e := rem64 id
    have hp := plF_range id
    have hb : -64 ≤ id.tmod 64 ∧ id.tmod 64 < 64 := by
      by_cases h : id.tmod 64 < 0
      · rw [if_pos h] at e; omega
      · rw [if_neg h] at e; omega
    refine evC_go0 (dec := []) (ks := [(0, 0), (0, 2)]) (s' := ⟨[(0, 0, Cont.cell (AV.int IntKind.i64 id)), (0, 2, Cont.cell (AV.int IntKind.i64 0))], 9, 11⟩) (by kernel_rfl) (by kernel_rfl) ?_
    refine evC_go (dec := []) (ks := [(0, 2), (0, 3)]) (ps := [(64 : Int) ≠ (0 : Int)]) (s' := ⟨[(0, 2, Cont.cell (AV.int IntKind.i64 0)), (0, 3, Cont.cell (AV.int IntKind.i64 (Int.tmod id 64)))], 33, 11⟩) (by kernel_rfl) (by kernel_rfl) ?_ ?_
    · (simp only [All]; (repeat' apply And.intro) <;> (try intro _) <;> (try intro _) <;> (repeat' apply And.intro) <;> (try intro _) <;> (try intro _) <;> first | trivial | assumption | exact .inr trivial | exact .inr rfl | omega | rfl | exact ⟨_, rfl, rfl⟩ | exact ⟨rfl, rfl⟩ | exact ⟨fun _ => rfl, fun _ => rfl⟩ | (unfold maxLen; omega) | (unfold i64R; first | omega | decide) | decide)
    refine evC_seq ?_
    refine evC_go0 (dec := []) (ks := [(0, 2), (0, 3), (0, 7)]) (s' := ⟨[(0, 2, Cont.cell (AV.int IntKind.i64 0)), (0, 3, Cont.cell (AV.int IntKind.i64 (Int.tmod id 64))), (0, 7, Cont.cell (AV.bool (decide (Int.tmod id 64 < 0))))], 49, 11⟩) (by kernel_rfl) (by kernel_rfl) ?_
    refine evC_if (q := decide (Int.tmod id 64 < 0)) (by kernel_rfl) (fun hc => ?_) (fun hc => ?_)
    · have h : id.tmod 64 < 0 := of_decide_eq_true hc
      rw [if_pos h] at e
      refine evC_goL0 (dec := []) (ks := [(0, 2), (0, 3)]) (s' := ⟨[(0, 2, Cont.cell (AV.int IntKind.i64 0)), (0, 3, Cont.cell (AV.int IntKind.i64 (IntKind.i64.wrap (Int.tmod id 64 + 64))))], 73, 11⟩) (by kernel_rfl) (by kernel_rfl) ?_
      refine then_normal ?_
      refine evC_go0 (dec := []) (ks := [(0, 2)]) (s' := ⟨[(0, 2, Cont.cell (AV.int IntKind.i64 (IntKind.i64.wrap (Int.tmod id 64 + 64))))], 89, 11⟩) (by kernel_rfl) (by kernel_rfl) ?_
      refine evC_ret ?_
      refine post_ret ?_
      refine ends_flat (vs := [AV.int IntKind.i64 (IntKind.i64.wrap (Int.tmod id 64 + 64))]) (Nat.zero_lt_succ _) (by kernel_rfl) (flat_of _ (by kernel_rfl)) rfl ?_
      rw [i64_in _ (by omega), e]; rfl
    · have h : ¬ id.tmod 64 < 0 := of_decide_eq_false hc
      rw [if_neg h] at e
      refine evC_skip ?_
      refine then_normal ?_
      refine evC_go0 (dec := []) (ks := [(0, 2)]) (s' := ⟨[(0, 2, Cont.cell (AV.int IntKind.i64 (Int.tmod id 64)))], 65, 11⟩) (by kernel_rfl) (by kernel_rfl) ?_
      refine evC_ret ?_
      refine post_ret ?_
      refine ends_flat (vs := [AV.int IntKind.i64 (Int.tmod id 64)]) (Nat.zero_lt_succ _) (by kernel_rfl) (flat_of _ (by kernel_rfl)) rfl ?_
      rw [e]; rfl
  · cases e

/-! The last number of a place; was a number given out? -/
def sLast : Spec := fun args _ _ => match args with
  | [.agg [.arr 64 f, .arr 64 g], .int .i64 p] => some ⟨[IsAr f g, 0 ≤ p ∧ p < 64, 0 ≤ iv (f p.toNat) ∧ iv (f p.toNat) ≤ 1048577], .int .i64 (64 * (iv (f p.toNat) - 1) + p), [], []⟩
  | _ => none
theorem last_ok : SpecOK Try.prog 39 sLast := by
  refine spec_own (by kernel_rfl) T_ok sget_nil Try.func39 rfl rfl fun args hr nb out e => ?_
  unfold sLast at e
  split at e
  · rename_i f g p
    injection e with e; subst e
    refine ⟨(fun _ h => nomatch h), true, [ar (fun i => iv (f i)) (fun i => bv (g i)), .int .i64 p], rfl, fun hs => ?_⟩
    have ha := hs _ List.mem_cons_self
    have h1 := hs _ (List.mem_cons_of_mem _ List.mem_cons_self)
    have h2 := hs _ (List.mem_cons_of_mem _ (List.mem_cons_of_mem _ List.mem_cons_self))
    rw [ha.eq]
    clear hs
    generalize hF : (fun i => iv (f i)) = F
    have hF' : ∀ i, iv (f i) = F i := fun i => by rw [← hF]
    rw [hF'] at h2
    rw [hF']
    generalize (fun i => bv (g i)) = G
    refine ⟨.cons _ _ _ _ (.same _ _ (ar_flat F G).has) (.cons _ _ _ _ (.same _ _ (.int _ _)) .nil), ?_⟩
    refine evC_go0 (dec := []) (ks := [(0, 1), (0, 2), (0, 4), (1, 0), (1, 64), (1, 128)]) (s' := ⟨[(0, 1, Cont.cell (AV.int IntKind.i64 p)), (0, 2, Cont.cell (AV.ptr 1 0)), (0, 4, Cont.cell (AV.int IntKind.i64 0)), (1, 0, Cont.arr 64 fun i => AV.int IntKind.i64 (F i)), (1, 64, Cont.arr 64 fun i => AV.bool (G i)), (1, 128, Cont.top)], 17, 13⟩) (by kernel_rfl) (by kernel_rfl) ?_
    refine evC_go (dec := []) (ks := [(0, 4)]) (ps := [(0 : Int) ≤ p, p < (↑(64 : Nat) : Int), (0 : Int) ≤ p, p < (↑(64 : Nat) : Int)]) (s' := ⟨[(0, 4, Cont.cell (AV.int IntKind.i64 (IntKind.i64.wrap (IntKind.i64.wrap (64 * IntKind.i64.wrap (F (Int.toNat p) - 1)) + p))))], 89, 13⟩) (by kernel_rfl) (by kernel_rfl) ?_ ?_
    · (simp only [All]; (repeat' apply And.intro) <;> (try intro _) <;> (try intro _) <;> (repeat' apply And.intro) <;> (try intro _) <;> (try intro _) <;> first | trivial | assumption | exact .inr trivial | exact .inr rfl | omega | rfl | exact ⟨_, rfl, rfl⟩ | exact ⟨rfl, rfl⟩ | exact ⟨fun _ => rfl, fun _ => rfl⟩ | (unfold maxLen; omega) | (unfold i64R; first | omega | decide) | decide)
    refine evC_ret ?_
    refine post_ret ?_
    refine ends_flat (vs := [AV.int IntKind.i64 (IntKind.i64.wrap (IntKind.i64.wrap (64 * IntKind.i64.wrap (F (Int.toNat p) - 1)) + p))]) (Nat.zero_lt_succ _) (by kernel_rfl) (flat_of _ (by kernel_rfl)) rfl ?_
    rw [i64_in (F p.toNat - 1) (by omega), i64_in (64 * (F p.toNat - 1)) (by omega), i64_in _ (by omega)]
    rfl
  · cases e
def givenF (F : Nat → Int) (id : Int) : Bool := decide (0 ≤ id) && decide (id ≤ 64 * (F (plF id).toNat - 1) + plF id)
def sGiven : Spec := fun args _ _ => match args with
  | [.agg [.arr 64 f, .arr 64 g], .int .i64 id] => some ⟨[IsAr f g, ∀ p, p < 64 → 0 ≤ iv (f p) ∧ iv (f p) ≤ 1048577], .bool (givenF (fun i => iv (f i)) id), [], []⟩
  | _ => none
theorem given_ok : SpecOK Try.prog 38 sGiven := by
  refine spec_own (by kernel_rfl) T_ok (sget_cons refPlace_ok (sget_cons last_ok sget_nil)) Try.func38 rfl rfl fun args hr nb out e => ?_
  unfold sGiven at e
  split at e
  · rename_i f g id
    injection e with e; subst e
    refine ⟨(fun _ h => nomatch h), true, [ar (fun i => iv (f i)) (fun i => bv (g i)), .int .i64 id], rfl, fun hs => ?_⟩
    have ha := hs _ List.mem_cons_self
    have h1 := hs _ (List.mem_cons_of_mem _ List.mem_cons_self)
    rw [ha.eq]
    clear hs
    have h2 := plF_range id
    have h3 := h1 (plF id).toNat (by omega)
    clear h1
    generalize hF : (fun i => iv (f i)) = F
    have hF' : ∀ i, iv (f i) = F i := fun i => by rw [← hF]
    rw [hF'] at h3
    generalize (fun i => bv (g i)) = G
    refine ⟨.cons _ _ _ _ (.same _ _ (ar_flat F G).has) (.cons _ _ _ _ (.same _ _ (.int _ _)) .nil), ?_⟩
    refine evC_go0 (dec := []) (ks := [(0, 1), (0, 2), (0, 4), (1, 0), (1, 64), (1, 128)]) (s' := ⟨[(0, 1, Cont.cell (AV.int IntKind.i64 id)), (0, 2, Cont.cell (AV.ptr 1 0)), (0, 4, Cont.cell (AV.bool false)), (1, 0, Cont.arr 64 fun i => AV.int IntKind.i64 (F i)), (1, 64, Cont.arr 64 fun i => AV.bool (G i)), (1, 128, Cont.top)], 17, 15⟩) (by kernel_rfl) (by kernel_rfl) ?_
    refine evC_go (dec := []) (ks := [(0, 4)]) (ps := [List.all [decide (id ≥ (0 : Int))] _root_.id = true → IsAr (fun i => AV.int IntKind.i64 (F i)) fun i => AV.bool (G i), List.all [decide (id ≥ (0 : Int))] _root_.id = true → (0 : Int) ≤ plF id ∧ plF id < (64 : Int), List.all [decide (id ≥ (0 : Int))] _root_.id = true → (0 : Int) ≤ F (Int.toNat (plF id)) ∧ F (Int.toNat (plF id)) ≤ (1048577 : Int)]) (s' := ⟨[(0, 4, Cont.cell (AV.bool (bif decide (id ≥ 0) then decide (id ≤ 64 * (F (Int.toNat (plF id)) - 1) + plF id) else false)))], 105, 15⟩) (by kernel_rfl) (by kernel_rfl) ?_ ?_
    · exact ⟨fun _ => ⟨fun _ => rfl, fun _ => rfl⟩, fun _ => h2, fun _ => h3⟩
    refine evC_ret ?_
    refine post_ret ?_
    refine ends_flat (vs := [AV.bool (bif decide (id ≥ 0) then decide (id ≤ 64 * (F (Int.toNat (plF id)) - 1) + plF id) else false)]) (Nat.zero_lt_succ _) (by kernel_rfl) (flat_of _ (by kernel_rfl)) rfl ?_
    exact congrArg AV.bool (cond_and _ _).symm
  · cases e
theorem div64 (id : Int) (h : 0 ≤ id) : id.tdiv 64 = id / 64 := Int.tdiv_eq_ediv_of_nonneg h
theorem id_split (id : Int) : id = 64 * (id / 64) + plF id := by unfold plF; omega

/-! Is. -/
def isF (F : Nat → Int) (G : Nat → Bool) (id : Int) : Bool := decide (0 ≤ id) && mayA F G && G (plF id).toNat && (id == 64 * (F (plF id).toNat - 1) + plF id)
def sIs : Spec := fun args _ _ => match args with
  | [.agg [.arr 64 f, .arr 64 g], .int .i64 id] => some ⟨[IsAr f g, i64R id], .bool (isF (fun i => iv (f i)) (fun i => bv (g i)) id), [], []⟩
  | _ => none
theorem is_ok : SpecOK Try.prog 37 sIs := by
  refine spec_own (by kernel_rfl) T_ok (sget_cons may_ok (sget_cons place_ok sget_nil)) Try.func37 rfl rfl fun args hr nb out e => ?_
  unfold sIs at e
  split at e
  · rename_i f g id
    injection e with e; subst e
    refine ⟨(fun _ h => nomatch h), true, [ar (fun i => iv (f i)) (fun i => bv (g i)), .int .i64 id], rfl, fun hs => ?_⟩
    have ha := hs _ List.mem_cons_self
    rw [ha.eq]
    generalize (fun i => iv (f i)) = F
    generalize (fun i => bv (g i)) = G
    refine ⟨.cons _ _ _ _ (.same _ _ (ar_flat F G).has) (.cons _ _ _ _ (.same _ _ (.int _ _)) .nil), ?_⟩
    have hid : i64R id := hs _ (List.mem_cons_of_mem _ List.mem_cons_self)
    clear hs
    unfold i64R at hid
    have hp := plF_range id
    have hsp := id_split id
    refine evC_go0 (dec := []) (ks := [(0, 1), (0, 2), (0, 4), (1, 0), (1, 64), (1, 128)]) (s' := ⟨[(0, 1, Cont.cell (AV.int IntKind.i64 id)), (0, 2, Cont.cell (AV.ptr 1 0)), (0, 4, Cont.cell (AV.bool false)), (1, 0, Cont.arr 64 fun i => AV.int IntKind.i64 (F i)), (1, 64, Cont.arr 64 fun i => AV.bool (G i)), (1, 128, Cont.top)], 17, 30⟩) (by kernel_rfl) (by kernel_rfl) ?_
    refine evC_go0 (dec := []) (ks := [(0, 1), (0, 2), (0, 4), (0, 5), (1, 0), (1, 64), (1, 128)]) (s' := ⟨[(0, 1, Cont.cell (AV.int IntKind.i64 id)), (0, 2, Cont.cell (AV.ptr 1 0)), (0, 4, Cont.cell (AV.bool false)), (0, 5, Cont.cell (AV.int IntKind.i64 (plF id))), (1, 0, Cont.arr 64 fun i => AV.int IntKind.i64 (F i)), (1, 64, Cont.arr 64 fun i => AV.bool (G i)), (1, 128, Cont.top)], 41, 30⟩) (by kernel_rfl) (by kernel_rfl) ?_
    refine evC_go (dec := []) (ks := [(0, 4)]) (ps := [List.all [decide (id ≥ (0 : Int))] _root_.id = true → IsAr (fun i => AV.int IntKind.i64 (F i)) fun i => AV.bool (G i), List.all [bif decide (id ≥ (0 : Int)) then mayA F G else false] _root_.id = true → (0 : Int) ≤ plF id, List.all [bif decide (id ≥ (0 : Int)) then mayA F G else false] _root_.id = true → plF id < (↑(64 : Nat) : Int), List.all [bif decide (id ≥ (0 : Int)) then mayA F G else false] _root_.id = true → (0 : Int) ≤ plF id, List.all [bif decide (id ≥ (0 : Int)) then mayA F G else false] _root_.id = true → plF id < (↑(64 : Nat) : Int), List.all [bif bif decide (id ≥ (0 : Int)) then mayA F G else false then G (Int.toNat (plF id)) else false] _root_.id = true → (64 : Int) ≠ (0 : Int), List.all [bif bif decide (id ≥ (0 : Int)) then mayA F G else false then G (Int.toNat (plF id)) else false] _root_.id = true → (0 : Int) ≤ plF id, List.all [bif bif decide (id ≥ (0 : Int)) then mayA F G else false then G (Int.toNat (plF id)) else false] _root_.id = true → plF id < (↑(64 : Nat) : Int), List.all [bif bif decide (id ≥ (0 : Int)) then mayA F G else false then G (Int.toNat (plF id)) else false] _root_.id = true → (0 : Int) ≤ plF id, List.all [bif bif decide (id ≥ (0 : Int)) then mayA F G else false then G (Int.toNat (plF id)) else false] _root_.id = true → plF id < (↑(64 : Nat) : Int)]) (s' := ⟨[(0, 4, Cont.cell (AV.bool (bif bif bif decide (id ≥ 0) then mayA F G else false then G (Int.toNat (plF id)) else false then IntKind.i64.wrap (Int.tdiv id 64) == IntKind.i64.wrap (F (Int.toNat (plF id)) - 1) else false)))], 225, 30⟩) (by kernel_rfl) (by kernel_rfl) ?_ ?_
    · (simp only [All]; (repeat' apply And.intro) <;> (try intro _) <;> (try intro _) <;> (repeat' apply And.intro) <;> (try intro _) <;> (try intro _) <;> first | trivial | assumption | exact .inr trivial | exact .inr rfl | omega | rfl | exact ⟨_, rfl, rfl⟩ | exact ⟨rfl, rfl⟩ | exact ⟨fun _ => rfl, fun _ => rfl⟩ | (unfold maxLen; omega) | (unfold i64R; first | omega | decide) | decide)
    refine evC_ret ?_
    refine post_ret ?_
    refine ends_flat (vs := [AV.bool (bif bif bif decide (id ≥ 0) then mayA F G else false then G (Int.toNat (plF id)) else false then IntKind.i64.wrap (Int.tdiv id 64) == IntKind.i64.wrap (F (Int.toNat (plF id)) - 1) else false)]) (Nat.zero_lt_succ _) (by kernel_rfl) (flat_of _ (by kernel_rfl)) rfl ?_
    refine congrArg AV.bool ?_
    unfold isF
    simp only [cond_and]
    by_cases h0 : 0 ≤ id
    · cases hm : mayA F G with
      | false => simp [h0]
      | true =>
        have hF := may_get hm (p := (plF id).toNat) (by omega)
        cases hg : G (plF id).toNat with
        | false => simp [h0]
        | true =>
          rw [div64 id h0, i64_in (id / 64) (by omega), i64_in (F (plF id).toNat - 1) (by omega)]
          have : (id == 64 * (F (plF id).toNat - 1) + plF id) = (id / 64 == F (plF id).toNat - 1) := by
            rw [Bool.eq_iff_iff]; simp only [beq_iff_eq]; omega
          rw [this]
          try simp [h0]
    · have : decide (0 ≤ id) = false := by simpa using h0
      rw [this]
      try rfl
  · cases e

end Go.Eng.S22
