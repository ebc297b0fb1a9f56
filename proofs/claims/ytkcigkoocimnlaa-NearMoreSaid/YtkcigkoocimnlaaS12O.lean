/- Seat 12: the document's Nearest and the law NearNearest, walked. -/
import Derived.Test.YtkcigkoocimnlaaEngX
import Derived.Test.YtkcigkoocimnlaaS12M
set_option linter.unusedSimpArgs false
set_option linter.unusedVariables false
namespace Go.Eng.S12
open Go.Proofs Go.IntWalk
set_option maxRecDepth 10000

def sRefNearest : Spec := fun args _ _ => match args with
  | [.rs 2 n false f, .int .i64 x, .int .i64 y] => some ⟨[(∀ i, i < n → f i = spF (spL n f) i) ∧ InL (spL n f), InB x ∧ InB y ∧ 0 < n], .int .i64 (nst (spL n f) x y : Nat), [], []⟩
  | _ => none
/-- How many of the first n are nearer than the i-th. -/
def cntN (l : List Sp) (x y : Int) (i n : Nat) : Nat := ((List.range n).filter fun k => nrB l x y k i).length
theorem cntN_succ (l : List Sp) (x y : Int) (i n : Nat) : cntN l x y i (n + 1) = cntN l x y i n + (bif nrB l x y n i then 1 else 0) := by
  unfold cntN
  rw [List.range_succ, List.filter_append, List.length_append]
  cases h : nrB l x y n i <;> simp [h]
theorem cntN_le (l : List Sp) (x y : Int) (i n : Nat) : cntN l x y i n ≤ n := by
  unfold cntN
  exact Nat.le_trans (List.length_filter_le _ _) (by simp)
theorem cntN_zero (l : List Sp) (x y : Int) (i : Nat) : (cntN l x y i l.length == 0) = (List.range l.length).all fun k => !nrB l x y k i := by
  unfold cntN
  rw [Bool.eq_iff_iff]
  simp [List.length_eq_zero_iff, List.filter_eq_nil_iff]
theorem nst_lt {l : List Sp} {x y : Int} (h0 : 0 < l.length) : nst l x y < l.length := by
  rw [← bst_nst l x y h0]
  rcases bstN_lt l x y l.length with h | h <;> omega
theorem nst_ok {l : List Sp} {x y : Int} (h0 : 0 < l.length) : ((List.range l.length).all fun k => !nrB l x y k (nst l x y)) = true := by
  rcases fst_spec (fun i => (List.range l.length).all fun k => !nrB l x y k i) l.length with ⟨h1, _⟩ | ⟨_, h2, _⟩
  · have := nst_lt (x := x) (y := y) h0
    unfold nst at this; omega
  · exact h2
theorem cntZ (l : List Sp) (x y : Int) (i : Nat) : (((cntN l x y i l.length : Nat) : Int) == 0) = (List.range l.length).all fun k => !nrB l x y k i := by
  rw [← cntN_zero, Bool.eq_iff_iff]
  simp
theorem refNearest_ok : SpecOK Try.prog 15 sRefNearest := by
  refine spec_own (by kernel_rfl) T_ok (sget_cons refFar_ok sget_nil) Try.func15 rfl rfl fun args hr nb out e => ?_
  unfold sRefNearest at e
  split at e
  · rename_i n f x y
    injection e with e; subst e
    refine ⟨(fun _ h => nomatch h), true, [.rs 2 n false (spF (spL n f)), .int .i64 x, .int .i64 y], rfl, fun hs => ?_⟩
    obtain ⟨h1, hl⟩ := hs _ List.mem_cons_self
    obtain ⟨hx, hy, h0⟩ := hs _ (List.mem_cons_of_mem _ List.mem_cons_self)
    refine ⟨.cons _ _ _ _ (.rs _ _ _ _ _ _ fun i hi => ⟨h1 i hi, (spF_flat _ i).has⟩) (.cons _ _ _ _ (.same _ _ (.int _ _)) (.cons _ _ _ _ (.same _ _ (.int _ _)) .nil)), ?_⟩
    clear hs
    obtain ⟨l, hll⟩ : ∃ l, l = spL n f := ⟨_, rfl⟩
    have hn : l.length = n := by rw [hll, spL_len]
    rw [← hll] at hl ⊢
    clear hll h1
    subst hn
    have hl256 := hl.1
    refine evC_go0 (dec := []) (ks := [(0, 0), (0, 1), (0, 2), (0, 6)]) (s' := ⟨[(0, 0, Cont.cell (AV.rs 2 (List.length l) false (spF l))), (0, 1, Cont.cell (AV.int IntKind.i64 x)), (0, 2, Cont.cell (AV.int IntKind.i64 y)), (0, 6, Cont.cell (AV.int IntKind.i64 0))], 33, 42⟩) (by kernel_rfl) (by kernel_rfl) ?_
    refine evC_seq ?_
    refine evC_go0 (dec := []) (ks := [(0, 0), (0, 1), (0, 2), (0, 6), (0, 7)]) (s' := ⟨[(0, 0, Cont.cell (AV.rs 2 (List.length l) false (spF l))), (0, 1, Cont.cell (AV.int IntKind.i64 x)), (0, 2, Cont.cell (AV.int IntKind.i64 y)), (0, 6, Cont.cell (AV.int IntKind.i64 0)), (0, 7, Cont.cell (AV.int IntKind.i64 0))], 65, 42⟩) (by kernel_rfl) (by kernel_rfl) ?_
    refine evC_block ?_
    refine evC_loop (ι := { i : Nat // i ≤ l.length ∧ ∀ j, j < i → ((List.range l.length).all fun k => !nrB l x y k j) = false }) (fun i => ⟨[(0, 0, Cont.cell (AV.rs 2 (List.length l) false (spF l))), (0, 1, Cont.cell (AV.int IntKind.i64 x)), (0, 2, Cont.cell (AV.int IntKind.i64 y)), (0, 6, Cont.cell (AV.int IntKind.i64 0)), (0, 7, .cell (.int .i64 (i.1 : Nat)))], 1, 42⟩) (fun i => l.length - i.1) ⟨0, Nat.zero_le _, fun j hj => absurd hj (Nat.not_lt_zero _)⟩ (wk_go [] rfl (by decide) rfl rfl ⟨⟨_, rfl, rfl⟩, ⟨_, rfl, rfl⟩, ⟨_, rfl, rfl⟩, ⟨_, rfl, rfl⟩, ⟨_, rfl, rfl⟩, trivial⟩) ?_
    rintro ⟨i, hi, hno⟩
    have hi : i ≤ l.length := hi
    refine evC_seq ?_
    refine evC_go0 (dec := []) (ks := [(0, 0), (0, 1), (0, 2), (0, 6), (0, 7), (0, 13)]) (s' := ⟨[(0, 0, Cont.cell (AV.rs 2 (List.length l) false (spF l))), (0, 1, Cont.cell (AV.int IntKind.i64 x)), (0, 2, Cont.cell (AV.int IntKind.i64 y)), (0, 6, Cont.cell (AV.int IntKind.i64 0)), (0, 7, Cont.cell (AV.int IntKind.i64 (↑i : Int))), (0, 13, Cont.cell (AV.bool (decide ((↑i : Int) < (↑(List.length l) : Int)))))], 129, 42⟩) (by kernel_rfl) (by kernel_rfl) ?_
    refine evC_if (q := decide ((↑i : Int) < (↑(List.length l) : Int))) (by kernel_rfl) (fun hc => ?_) (fun hc => ?_)
    · have hlt : i < l.length := by have := of_decide_eq_true hc; omega
      clear hc
      refine evC_skip ?_
      refine then_normal ?_
      refine evC_seq ?_
      refine evC_block ?_
      refine evC_go0 (dec := []) (ks := [(0, 0), (0, 1), (0, 2), (0, 6), (0, 7), (0, 8)]) (s' := ⟨[(0, 0, Cont.cell (AV.rs 2 (List.length l) false (spF l))), (0, 1, Cont.cell (AV.int IntKind.i64 x)), (0, 2, Cont.cell (AV.int IntKind.i64 y)), (0, 6, Cont.cell (AV.int IntKind.i64 0)), (0, 7, Cont.cell (AV.int IntKind.i64 (↑i : Int))), (0, 8, Cont.cell (AV.int IntKind.i64 0))], 161, 42⟩) (by kernel_rfl) (by kernel_rfl) ?_
      refine evC_seq ?_
      refine evC_go0 (dec := []) (ks := [(0, 0), (0, 1), (0, 2), (0, 6), (0, 7), (0, 8), (0, 9)]) (s' := ⟨[(0, 0, Cont.cell (AV.rs 2 (List.length l) false (spF l))), (0, 1, Cont.cell (AV.int IntKind.i64 x)), (0, 2, Cont.cell (AV.int IntKind.i64 y)), (0, 6, Cont.cell (AV.int IntKind.i64 0)), (0, 7, Cont.cell (AV.int IntKind.i64 (↑i : Int))), (0, 8, Cont.cell (AV.int IntKind.i64 0)), (0, 9, Cont.cell (AV.int IntKind.i64 0))], 193, 42⟩) (by kernel_rfl) (by kernel_rfl) ?_
      refine evC_block ?_
      refine evC_loop (ι := { k : Nat // k ≤ l.length }) (fun k => ⟨[(0, 0, Cont.cell (AV.rs 2 (List.length l) false (spF l))), (0, 1, Cont.cell (AV.int IntKind.i64 x)), (0, 2, Cont.cell (AV.int IntKind.i64 y)), (0, 6, Cont.cell (AV.int IntKind.i64 0)), (0, 7, Cont.cell (AV.int IntKind.i64 (↑i : Int))), (0, 8, .cell (.int .i64 (cntN l x y i k.1 : Nat))), (0, 9, .cell (.int .i64 (k.1 : Nat)))], 1, 42⟩) (fun k => l.length - k.1) ⟨0, Nat.zero_le _⟩ (wk_go [] rfl (by decide) rfl rfl ⟨⟨_, rfl, rfl⟩, ⟨_, rfl, rfl⟩, ⟨_, rfl, rfl⟩, ⟨_, rfl, rfl⟩, ⟨_, rfl, rfl⟩, ⟨_, rfl, rfl⟩, ⟨_, rfl, rfl⟩, trivial⟩) ?_
      rintro ⟨k, hk⟩
      have hk : k ≤ l.length := hk
      have hcn := cntN_le l x y i k
      refine evC_seq ?_
      refine evC_go0 (dec := []) (ks := [(0, 0), (0, 1), (0, 2), (0, 6), (0, 7), (0, 8), (0, 9), (0, 19)]) (s' := ⟨[(0, 0, Cont.cell (AV.rs 2 (List.length l) false (spF l))), (0, 1, Cont.cell (AV.int IntKind.i64 x)), (0, 2, Cont.cell (AV.int IntKind.i64 y)), (0, 6, Cont.cell (AV.int IntKind.i64 0)), (0, 7, Cont.cell (AV.int IntKind.i64 (↑i : Int))), (0, 8, Cont.cell (AV.int IntKind.i64 (↑(cntN l x y i k) : Int))), (0, 9, Cont.cell (AV.int IntKind.i64 (↑k : Int))), (0, 19, Cont.cell (AV.bool (decide ((↑k : Int) < (↑(List.length l) : Int)))))], 129, 42⟩) (by kernel_rfl) (by kernel_rfl) ?_
      refine evC_if (q := decide ((↑k : Int) < (↑(List.length l) : Int))) (by kernel_rfl) (fun hc => ?_) (fun hc => ?_)
      · have hltk : k < l.length := by have := of_decide_eq_true hc; omega
        clear hc
        refine evC_skip ?_
        refine then_normal ?_
        refine evC_seq ?_
        refine evC_block ?_
        refine evC_go (dec := []) (ks := [(0, 0), (0, 1), (0, 2), (0, 6), (0, 7), (0, 8), (0, 9), (0, 36)]) (ps := [(0 : Int) ≤ (↑k : Int), (↑k : Int) < (↑(List.length l) : Int), (2 : Nat) = (2 : Nat), (0 : Int) ≤ (↑i : Int), (↑i : Int) < (↑(List.length l) : Int), (2 : Nat) = (2 : Nat)]) (s' := ⟨[(0, 0, Cont.cell (AV.rs 2 (List.length l) false (spF l))), (0, 1, Cont.cell (AV.int IntKind.i64 x)), (0, 2, Cont.cell (AV.int IntKind.i64 y)), (0, 6, Cont.cell (AV.int IntKind.i64 0)), (0, 7, Cont.cell (AV.int IntKind.i64 (↑i : Int))), (0, 8, Cont.cell (AV.int IntKind.i64 (↑(cntN l x y i k) : Int))), (0, 9, Cont.cell (AV.int IntKind.i64 (↑k : Int))), (0, 36, Cont.cell (AV.bool (decide (farW (Prod.fst (List.getD l k (0, 0)), Prod.snd (List.getD l k (0, 0))) x y < farW (Prod.fst (List.getD l i (0, 0)), Prod.snd (List.getD l i (0, 0))) x y))))], 609, 42⟩) (by kernel_rfl) (by kernel_rfl) ?_ ?_
        · (simp only [All]; (repeat' apply And.intro) <;> (try intro _) <;> (try intro _) <;> (repeat' apply And.intro) <;> (try intro _) <;> (try intro _) <;> first | trivial | assumption | exact .inr trivial | exact .inr rfl | omega | rfl | exact ⟨_, rfl, rfl⟩ | exact ⟨rfl, rfl⟩ | exact ⟨fun _ => rfl, fun _ => rfl⟩ | (unfold maxLen; omega) | (unfold i64R; first | omega | decide) | decide)
        have hb : decide (farW (Prod.fst (List.getD l k (0, 0)), Prod.snd (List.getD l k (0, 0))) x y < farW (Prod.fst (List.getD l i (0, 0)), Prod.snd (List.getD l i (0, 0))) x y) = nrB l x y k i := by
          unfold nrB
          rw [show farW (Prod.fst (List.getD l k (0, 0)), Prod.snd (List.getD l k (0, 0))) x y = farI (l.getD k (0, 0)) x y from far_in hl hx hy hltk, show farW (Prod.fst (List.getD l i (0, 0)), Prod.snd (List.getD l i (0, 0))) x y = farI (l.getD i (0, 0)) x y from far_in hl hx hy hlt]
        rw [hb]
        refine evC_if (q := nrB l x y k i) (by kernel_rfl) (fun hc => ?_) (fun hc => ?_)
        · have hs : cntN l x y i (k + 1) = cntN l x y i k + 1 := by rw [cntN_succ, hc]; rfl
          refine evC_goL0 (dec := []) (ks := [(0, 0), (0, 1), (0, 2), (0, 6), (0, 7), (0, 8), (0, 9)]) (s' := ⟨[(0, 0, Cont.cell (AV.rs 2 (List.length l) false (spF l))), (0, 1, Cont.cell (AV.int IntKind.i64 x)), (0, 2, Cont.cell (AV.int IntKind.i64 y)), (0, 6, Cont.cell (AV.int IntKind.i64 0)), (0, 7, Cont.cell (AV.int IntKind.i64 (↑i : Int))), (0, 8, Cont.cell (AV.int IntKind.i64 (IntKind.i64.wrap ((↑(cntN l x y i k) : Int) + 1)))), (0, 9, Cont.cell (AV.int IntKind.i64 (↑k : Int)))], 705, 42⟩) (by kernel_rfl) (by kernel_rfl) ?_
          refine block_normal ?_
          refine then_normal ?_
          refine evC_goL0 (dec := []) (ks := [(0, 0), (0, 1), (0, 2), (0, 6), (0, 7), (0, 8), (0, 9)]) (s' := ⟨[(0, 0, Cont.cell (AV.rs 2 (List.length l) false (spF l))), (0, 1, Cont.cell (AV.int IntKind.i64 x)), (0, 2, Cont.cell (AV.int IntKind.i64 y)), (0, 6, Cont.cell (AV.int IntKind.i64 0)), (0, 7, Cont.cell (AV.int IntKind.i64 (↑i : Int))), (0, 8, Cont.cell (AV.int IntKind.i64 (IntKind.i64.wrap ((↑(cntN l x y i k) : Int) + 1)))), (0, 9, Cont.cell (AV.int IntKind.i64 (IntKind.i64.wrap ((↑k : Int) + 1))))], 801, 42⟩) (by kernel_rfl) (by kernel_rfl) ?_
          rw [wrap_add_one hltk (by omega), wrap_add_one (by omega : cntN l x y i k < l.length) (by omega)]
          refine round_normal (⟨k + 1, hltk⟩) (wk_go [] rfl (by decide) rfl rfl ⟨⟨_, rfl, rfl⟩, ⟨_, rfl, rfl⟩, ⟨_, rfl, rfl⟩, ⟨_, rfl, rfl⟩, ⟨_, rfl, rfl⟩, ⟨_, rfl, ?_⟩, ⟨_, rfl, rfl⟩, trivial⟩) ?_
          · rw [hs]; rfl
          · show l.length - (k + 1) < l.length - k; omega
        · have hs : cntN l x y i (k + 1) = cntN l x y i k := by rw [cntN_succ, hc]; rfl
          refine evC_skip ?_
          refine block_normal ?_
          refine then_normal ?_
          refine evC_goL0 (dec := []) (ks := [(0, 0), (0, 1), (0, 2), (0, 6), (0, 7), (0, 8), (0, 9)]) (s' := ⟨[(0, 0, Cont.cell (AV.rs 2 (List.length l) false (spF l))), (0, 1, Cont.cell (AV.int IntKind.i64 x)), (0, 2, Cont.cell (AV.int IntKind.i64 y)), (0, 6, Cont.cell (AV.int IntKind.i64 0)), (0, 7, Cont.cell (AV.int IntKind.i64 (↑i : Int))), (0, 8, Cont.cell (AV.int IntKind.i64 (↑(cntN l x y i k) : Int))), (0, 9, Cont.cell (AV.int IntKind.i64 (IntKind.i64.wrap ((↑k : Int) + 1))))], 705, 42⟩) (by kernel_rfl) (by kernel_rfl) ?_
          rw [wrap_add_one hltk (by omega)]
          refine round_normal (⟨k + 1, hltk⟩) (wk_go [] rfl (by decide) rfl rfl ⟨⟨_, rfl, rfl⟩, ⟨_, rfl, rfl⟩, ⟨_, rfl, rfl⟩, ⟨_, rfl, rfl⟩, ⟨_, rfl, rfl⟩, ⟨_, rfl, ?_⟩, ⟨_, rfl, rfl⟩, trivial⟩) ?_
          · rw [hs]; rfl
          · show l.length - (k + 1) < l.length - k; omega
      · have hin : k = l.length := by have := of_decide_eq_false hc; omega
        subst hin
        clear hc
        refine evC_exit ?_
        refine then_exit ?_
        refine round_exit ?_
        refine block_exit ?_
        refine then_normal ?_
        refine evC_go0 (dec := []) (ks := [(0, 0), (0, 1), (0, 2), (0, 6), (0, 7), (0, 40)]) (s' := ⟨[(0, 0, Cont.cell (AV.rs 2 (List.length l) false (spF l))), (0, 1, Cont.cell (AV.int IntKind.i64 x)), (0, 2, Cont.cell (AV.int IntKind.i64 y)), (0, 6, Cont.cell (AV.int IntKind.i64 0)), (0, 7, Cont.cell (AV.int IntKind.i64 (↑i : Int))), (0, 40, Cont.cell (AV.bool ((↑(cntN l x y i (List.length l)) : Int) == 0)))], 193, 42⟩) (by kernel_rfl) (by kernel_rfl) ?_
        rw [cntZ]
        refine evC_if (q := List.all (List.range (List.length l)) fun k => !nrB l x y k i) (by kernel_rfl) (fun hc => ?_) (fun hc => ?_)
        · have hs : nst l x y = i := fst_at hlt hc hno
          refine evC_go0 (dec := []) (ks := [(0, 0), (0, 1), (0, 2), (0, 6), (0, 7)]) (s' := ⟨[(0, 0, Cont.cell (AV.rs 2 (List.length l) false (spF l))), (0, 1, Cont.cell (AV.int IntKind.i64 x)), (0, 2, Cont.cell (AV.int IntKind.i64 y)), (0, 6, Cont.cell (AV.int IntKind.i64 (↑i : Int))), (0, 7, Cont.cell (AV.int IntKind.i64 (↑i : Int)))], 257, 42⟩) (by kernel_rfl) (by kernel_rfl) ?_
          refine evC_ret ?_
          refine block_ret ?_
          refine then_ret ?_
          refine round_ret ?_
          refine block_ret ?_
          refine then_ret ?_
          refine post_ret ?_
          refine ends_flat (vs := [AV.int IntKind.i64 (↑i : Int)]) (Nat.zero_lt_succ _) (by kernel_rfl) (flat_of _ (by kernel_rfl)) rfl ?_
          rw [hs]
          rfl
        · have hf : ((List.range l.length).all fun k => !nrB l x y k i) = false := hc
          refine evC_skip ?_
          refine block_normal ?_
          refine then_normal ?_
          refine evC_goL0 (dec := []) (ks := [(0, 0), (0, 1), (0, 2), (0, 6), (0, 7)]) (s' := ⟨[(0, 0, Cont.cell (AV.rs 2 (List.length l) false (spF l))), (0, 1, Cont.cell (AV.int IntKind.i64 x)), (0, 2, Cont.cell (AV.int IntKind.i64 y)), (0, 6, Cont.cell (AV.int IntKind.i64 0)), (0, 7, Cont.cell (AV.int IntKind.i64 (IntKind.i64.wrap ((↑i : Int) + 1))))], 289, 42⟩) (by kernel_rfl) (by kernel_rfl) ?_
          rw [wrap_add_one hlt (by omega)]
          refine round_normal (⟨i + 1, hlt, fun j hj => ?_⟩) (wk_go [] rfl (by decide) rfl rfl ⟨⟨_, rfl, rfl⟩, ⟨_, rfl, rfl⟩, ⟨_, rfl, rfl⟩, ⟨_, rfl, rfl⟩, ⟨_, rfl, rfl⟩, trivial⟩) ?_
          · rcases Nat.lt_or_ge j i with h | h
            · exact hno j h
            · have : j = i := by omega
              subst this; exact hf
          · show l.length - (i + 1) < l.length - i; omega
    · have hge : l.length ≤ i := by have := of_decide_eq_false hc; omega
      exfalso
      have h1 := nst_lt (x := x) (y := y) h0
      have h2 := nst_ok (x := x) (y := y) h0
      rw [hno _ (by omega)] at h2
      cases h2
  · cases e
def sNearNearestB : Spec := fun args _ _ => match args with
  | [.agg [.rs 2 n false f, .int .i64 x, .int .i64 y, .int .i64 r]] => some ⟨[(∀ i, i < n → f i = spF (spL n f) i) ∧ n ≤ maxLen, mayB ((spL n f).take (fewN n)) = false], .bool true, [], []⟩
  | _ => none
def sNearNearestG : Spec := fun args _ _ => match args with
  | [.agg [.rs 2 n false f, .int .i64 x, .int .i64 y, .int .i64 r]] => some ⟨[(∀ i, i < n → f i = spF (spL n f) i) ∧ n ≤ maxLen, mayB ((spL n f).take (fewN n)) = true], .bool true, [], []⟩
  | _ => none
theorem nearNearestB_ok : SpecOK Try.prog 4 sNearNearestB := by
  refine spec_own (by kernel_rfl) T_ok (sget_cons few_ok (sget_cons madeB_ok (sget_cons awake_ok sget_nil))) Try.func4 rfl rfl fun args hr nb out e => ?_
  unfold sNearNearestB at e
  split at e
  · rename_i n f x y r
    injection e with e; subst e
    refine ⟨(fun _ h => nomatch h), true, [.agg [.rs 2 n false (spF (spL n f)), .int .i64 x, .int .i64 y, .int .i64 r]], rfl, fun hs => ?_⟩
    obtain ⟨h1, h2⟩ := hs _ List.mem_cons_self
    have h3 := hs _ (List.mem_cons_of_mem _ List.mem_cons_self)
    refine ⟨asked_pass h1, ?_⟩
    clear hs h1
    have hq := @few_len n f
    have hn : spL n (spF (spL n f)) = spL n f := by
      have := spL_spF (spL n f)
      rwa [spL_len] at this
    refine evC_go0 (dec := []) (ks := [(0, 1), (0, 2), (1, 0), (1, 1), (1, 2), (1, 3), (1, 4)]) (s' := ⟨[(0, 1, Cont.cell (AV.ptr 1 0)), (0, 2, Cont.cell (AV.bool false)), (1, 0, Cont.cell (AV.rs 2 n false (spF (spL n f)))), (1, 1, Cont.cell (AV.int IntKind.i64 x)), (1, 2, Cont.cell (AV.int IntKind.i64 y)), (1, 3, Cont.cell (AV.int IntKind.i64 r)), (1, 4, Cont.top)], 65, 77⟩) (by kernel_rfl) (by kernel_rfl) ?_
    refine evC_go (dec := []) (ks := [(0, 2), (0, 3), (0, 4), (0, 5)]) (ps := [(∀ (i : Nat), i < n → spF (spL n f) i = spF (spL n (spF (spL n f))) i) ∧ n ≤ maxLen]) (s' := ⟨[(0, 2, Cont.cell (AV.bool false)), (0, 3, Cont.cell (AV.rs 2 (List.length (List.take (fewN n) (spL n (spF (spL n f))))) false (spF (List.take (fewN n) (spL n (spF (spL n f))))))), (0, 4, Cont.cell (AV.int IntKind.i64 x)), (0, 5, Cont.cell (AV.int IntKind.i64 y))], 385, 77⟩) (by kernel_rfl) (by kernel_rfl) ?_ ?_
    · exact ⟨fun i hi => by rw [hn], h2⟩
    rw [hn]
    generalize List.take (fewN n) (spL n f) = l at *
    refine evC_go (dec := []) (ks := [(0, 2), (0, 3), (0, 4), (0, 5), (0, 6), (0, 7)]) (ps := [(∀ (i : Nat), i < List.length l → spF l i = spF (spL (List.length l) (spF l)) i) ∧ List.length l ≤ (258 : Nat), mayB (spL (List.length l) (spF l)) = false]) (s' := ⟨[(0, 2, Cont.cell (AV.bool false)), (0, 3, Cont.cell (AV.rs 2 (List.length l) false (spF l))), (0, 4, Cont.cell (AV.int IntKind.i64 x)), (0, 5, Cont.cell (AV.int IntKind.i64 y)), (0, 6, Cont.cell AV.nilp), (0, 7, Cont.cell (AV.bool true))], 609, 77⟩) (by kernel_rfl) (by kernel_rfl) ?_ ?_
    · exact ⟨⟨fun i hi => by rw [spL_spF], hq⟩, by rw [spL_spF]; exact h3⟩
    refine evC_seq ?_
    refine evC_go0 (dec := []) (ks := [(0, 2), (0, 3), (0, 4), (0, 5), (0, 6), (0, 7), (0, 23)]) (s' := ⟨[(0, 2, Cont.cell (AV.bool false)), (0, 3, Cont.cell (AV.rs 2 (List.length l) false (spF l))), (0, 4, Cont.cell (AV.int IntKind.i64 x)), (0, 5, Cont.cell (AV.int IntKind.i64 y)), (0, 6, Cont.cell AV.nilp), (0, 7, Cont.cell (AV.bool true)), (0, 23, Cont.cell (AV.bool true))], 673, 77⟩) (by kernel_rfl) (by kernel_rfl) ?_
    refine evC_if (q := true) (by kernel_rfl) (fun hc => ?_) (fun hc => ?_)
    rotate_left
    · cases hc
    refine evC_go0 (dec := []) (ks := [(0, 2), (0, 3), (0, 4), (0, 5), (0, 6)]) (s' := ⟨[(0, 2, Cont.cell (AV.bool true)), (0, 3, Cont.cell (AV.rs 2 (List.length l) false (spF l))), (0, 4, Cont.cell (AV.int IntKind.i64 x)), (0, 5, Cont.cell (AV.int IntKind.i64 y)), (0, 6, Cont.cell AV.nilp)], 833, 77⟩) (by kernel_rfl) (by kernel_rfl) ?_
    refine evC_ret ?_
    refine then_ret ?_
    refine post_ret ?_
    refine ends_flat (vs := [AV.bool true]) (Nat.zero_lt_succ _) (by kernel_rfl) (flat_of _ (by kernel_rfl)) rfl ?_
    rfl
  · cases e
theorem nearNearestG_ok : SpecOK Try.prog 4 sNearNearestG := by
  refine spec_own (by kernel_rfl) T_ok (sget_cons few_ok (sget_cons madeG_ok (sget_cons awake_ok (sget_cons nearest_ok (sget_cons in_ok (sget_cons refNearest_ok sget_nil)))))) Try.func4 rfl rfl fun args hr nb out e => ?_
  unfold sNearNearestG at e
  split at e
  · rename_i n f x y r
    injection e with e; subst e
    refine ⟨(fun _ h => nomatch h), true, [.agg [.rs 2 n false (spF (spL n f)), .int .i64 x, .int .i64 y, .int .i64 r]], rfl, fun hs => ?_⟩
    obtain ⟨h1, h2⟩ := hs _ List.mem_cons_self
    have h3 := hs _ (List.mem_cons_of_mem _ List.mem_cons_self)
    refine ⟨asked_pass h1, ?_⟩
    clear hs h1
    have hq := @few_len n f
    have hn : spL n (spF (spL n f)) = spL n f := by
      have := spL_spF (spL n f)
      rwa [spL_len] at this
    refine evC_go0 (dec := []) (ks := [(0, 1), (0, 2), (1, 0), (1, 1), (1, 2), (1, 3), (1, 4)]) (s' := ⟨[(0, 1, Cont.cell (AV.ptr 1 0)), (0, 2, Cont.cell (AV.bool false)), (1, 0, Cont.cell (AV.rs 2 n false (spF (spL n f)))), (1, 1, Cont.cell (AV.int IntKind.i64 x)), (1, 2, Cont.cell (AV.int IntKind.i64 y)), (1, 3, Cont.cell (AV.int IntKind.i64 r)), (1, 4, Cont.top)], 65, 77⟩) (by kernel_rfl) (by kernel_rfl) ?_
    refine evC_go (dec := []) (ks := [(0, 2), (0, 3), (0, 4), (0, 5)]) (ps := [(∀ (i : Nat), i < n → spF (spL n f) i = spF (spL n (spF (spL n f))) i) ∧ n ≤ maxLen]) (s' := ⟨[(0, 2, Cont.cell (AV.bool false)), (0, 3, Cont.cell (AV.rs 2 (List.length (List.take (fewN n) (spL n (spF (spL n f))))) false (spF (List.take (fewN n) (spL n (spF (spL n f))))))), (0, 4, Cont.cell (AV.int IntKind.i64 x)), (0, 5, Cont.cell (AV.int IntKind.i64 y))], 385, 77⟩) (by kernel_rfl) (by kernel_rfl) ?_ ?_
    · exact ⟨fun i hi => by rw [hn], h2⟩
    rw [hn]
    generalize List.take (fewN n) (spL n f) = l at *
    have hl := mayB_iff.1 h3
    refine evC_go (dec := []) (ks := [(0, 2), (0, 3), (0, 4), (0, 5), (0, 6), (0, 7), (417, 0), (417, 1), (417, 2), (418, 0)]) (ps := [(∀ (i : Nat), i < List.length l → spF l i = spF (spL (List.length l) (spF l)) i) ∧ List.length l ≤ (258 : Nat), mayB (spL (List.length l) (spF l)) = true]) (s' := ⟨[(0, 2, Cont.cell (AV.bool false)), (0, 3, Cont.cell (AV.rs 2 (List.length l) false (spF l))), (0, 4, Cont.cell (AV.int IntKind.i64 x)), (0, 5, Cont.cell (AV.int IntKind.i64 y)), (0, 6, Cont.cell (AV.ptr 417 0)), (0, 7, Cont.cell (AV.bool true)), (417, 0, Cont.cell (AV.rs 2 (List.length (spL (List.length l) (spF l))) false (spF (spL (List.length l) (spF l))))), (417, 1, Cont.cell (AV.mp 418)), (417, 2, Cont.top), (418, 0, Cont.map 2 (qmap (sqN (spL (List.length l) (spF l)) (List.length (spL (List.length l) (spF l))))))], 609, 77⟩) (by kernel_rfl) (by kernel_rfl) ?_ ?_
    · exact ⟨⟨fun i hi => by rw [spL_spF], hq⟩, by rw [spL_spF]; exact h3⟩
    rw [spL_spF]
    refine evC_seq ?_
    refine evC_go0 (dec := []) (ks := [(0, 2), (0, 3), (0, 4), (0, 5), (0, 6), (0, 7), (0, 23), (417, 0), (417, 1), (417, 2), (418, 0)]) (s' := ⟨[(0, 2, Cont.cell (AV.bool false)), (0, 3, Cont.cell (AV.rs 2 (List.length l) false (spF l))), (0, 4, Cont.cell (AV.int IntKind.i64 x)), (0, 5, Cont.cell (AV.int IntKind.i64 y)), (0, 6, Cont.cell (AV.ptr 417 0)), (0, 7, Cont.cell (AV.bool true)), (0, 23, Cont.cell (AV.bool false)), (417, 0, Cont.cell (AV.rs 2 (List.length l) false (spF l))), (417, 1, Cont.cell (AV.mp 418)), (417, 2, Cont.top), (418, 0, Cont.map 2 (qmap (sqN l (List.length l))))], 673, 77⟩) (by kernel_rfl) (by kernel_rfl) ?_
    refine evC_if (q := false) (by kernel_rfl) (fun hc => ?_) (fun hc => ?_)
    · cases hc
    refine evC_skip ?_
    refine then_normal ?_
    refine evC_go (dec := []) (ks := [(0, 2), (0, 3), (0, 4), (0, 5), (0, 8), (0, 9)]) (ps := [((0 : Nat) < (417 : Nat) ∧ (0 : Nat) < (418 : Nat) ∧ (417 : Nat) ≠ (418 : Nat)) ∧ spF l = spF (spL (List.length l) (spF l)) ∧ qmap (sqN l (List.length l)) = qmap (sqN (spL (List.length l) (spF l)) (List.length (spL (List.length l) (spF l)))) ∧ InL (spL (List.length l) (spF l))]) (s' := ⟨[(0, 2, Cont.cell (AV.bool false)), (0, 3, Cont.cell (AV.rs 2 (List.length l) false (spF l))), (0, 4, Cont.cell (AV.int IntKind.i64 x)), (0, 5, Cont.cell (AV.int IntKind.i64 y)), (0, 8, Cont.cell (AV.int IntKind.i64 (nstV (spL (List.length l) (spF l)) x y))), (0, 9, Cont.cell (AV.int IntKind.i64 (nstE (spL (List.length l) (spF l)) x y)))], 961, 77⟩) (by kernel_rfl) (by kernel_rfl) ?_ ?_
    · exact ⟨⟨by decide, by decide, by decide⟩, by rw [idx_eta], by rw [idx_eta], by rw [idx_eta]; exact hl⟩
    rw [idx_eta]
    refine evC_seq ?_
    refine evC_go0 (dec := []) (ks := [(0, 2), (0, 3), (0, 4), (0, 5), (0, 8), (0, 9), (0, 42)]) (s' := ⟨[(0, 2, Cont.cell (AV.bool false)), (0, 3, Cont.cell (AV.rs 2 (List.length l) false (spF l))), (0, 4, Cont.cell (AV.int IntKind.i64 x)), (0, 5, Cont.cell (AV.int IntKind.i64 y)), (0, 8, Cont.cell (AV.int IntKind.i64 (nstV l x y))), (0, 9, Cont.cell (AV.int IntKind.i64 (nstE l x y))), (0, 42, Cont.cell (AV.bool (bif !inb x then true else !inb y)))], 1217, 77⟩) (by kernel_rfl) (by kernel_rfl) ?_
    rw [cond_or]
    have ho : (!inb x || !inb y) = !(inb x && inb y) := by
      cases inb x <;> cases inb y <;> rfl
    rw [ho]
    refine evC_if (q := !(inb x && inb y)) (by kernel_rfl) (fun hc => ?_) (fun hc => ?_)
    · have hq : (inb x && inb y) = false := by
        revert hc
        cases inb x && inb y <;> simp
      have hv : nstV l x y = 0 ∧ nstE l x y = 1 := by unfold nstV nstE; rw [hq]; exact ⟨rfl, rfl⟩
      rw [hv.1, hv.2]
      refine evC_go0 (dec := []) (ks := [(0, 2), (0, 3), (0, 4), (0, 5), (0, 8), (0, 9)]) (s' := ⟨[(0, 2, Cont.cell (AV.bool true)), (0, 3, Cont.cell (AV.rs 2 (List.length l) false (spF l))), (0, 4, Cont.cell (AV.int IntKind.i64 x)), (0, 5, Cont.cell (AV.int IntKind.i64 y)), (0, 8, Cont.cell (AV.int IntKind.i64 0)), (0, 9, Cont.cell (AV.int IntKind.i64 1))], 1537, 77⟩) (by kernel_rfl) (by kernel_rfl) ?_
      refine evC_ret ?_
      refine then_ret ?_
      refine post_ret ?_
      refine ends_flat (vs := [AV.bool true]) (Nat.zero_lt_succ _) (by kernel_rfl) (flat_of _ (by kernel_rfl)) rfl ?_
      rfl
    · have hq : (inb x && inb y) = true := by simpa using hc
      have hxy : InB x ∧ InB y := by simpa [inb_iff] using hq
      clear hc
      refine evC_skip ?_
      refine then_normal ?_
      refine evC_seq ?_
      refine evC_go0 (dec := []) (ks := [(0, 2), (0, 3), (0, 4), (0, 5), (0, 8), (0, 9), (0, 54)]) (s' := ⟨[(0, 2, Cont.cell (AV.bool false)), (0, 3, Cont.cell (AV.rs 2 (List.length l) false (spF l))), (0, 4, Cont.cell (AV.int IntKind.i64 x)), (0, 5, Cont.cell (AV.int IntKind.i64 y)), (0, 8, Cont.cell (AV.int IntKind.i64 (nstV l x y))), (0, 9, Cont.cell (AV.int IntKind.i64 (nstE l x y))), (0, 54, Cont.cell (AV.bool ((↑(List.length l) : Int) == 0)))], 1313, 77⟩) (by kernel_rfl) (by kernel_rfl) ?_
      refine evC_if (q := (↑(List.length l) : Int) == 0) (by kernel_rfl) (fun hc => ?_) (fun hc => ?_)
      · have h0 : l.length = 0 := by simpa using hc
        have hv : nstV l x y = 0 ∧ nstE l x y = 6 := by unfold nstV nstE; rw [hq, h0]; exact ⟨rfl, rfl⟩
        rw [hv.1, hv.2]
        refine evC_go0 (dec := []) (ks := [(0, 2), (0, 3), (0, 4), (0, 5), (0, 8), (0, 9)]) (s' := ⟨[(0, 2, Cont.cell (AV.bool true)), (0, 3, Cont.cell (AV.rs 2 (List.length l) false (spF l))), (0, 4, Cont.cell (AV.int IntKind.i64 x)), (0, 5, Cont.cell (AV.int IntKind.i64 y)), (0, 8, Cont.cell (AV.int IntKind.i64 0)), (0, 9, Cont.cell (AV.int IntKind.i64 6))], 1633, 77⟩) (by kernel_rfl) (by kernel_rfl) ?_
        refine evC_ret ?_
        refine then_ret ?_
        refine post_ret ?_
        refine ends_flat (vs := [AV.bool true]) (Nat.zero_lt_succ _) (by kernel_rfl) (flat_of _ (by kernel_rfl)) rfl ?_
        rfl
      · have h0 : 0 < l.length := by
          rcases Nat.eq_zero_or_pos l.length with h | h
          · rw [h] at hc; simp at hc
          · exact h
        clear hc
        have hv : nstV l x y = (nst l x y : Nat) ∧ nstE l x y = 0 := by
          have : (l.length == 0) = false := by
            have : l.length ≠ 0 := by omega
            simpa using this
          unfold nstV nstE; rw [hq, this]; exact ⟨rfl, rfl⟩
        rw [hv.1, hv.2]
        refine evC_skip ?_
        refine then_normal ?_
        refine evC_go (dec := []) (ks := [(0, 2)]) (ps := [(∀ (i : Nat), i < List.length l → spF l i = spF (spL (List.length l) (spF l)) i) ∧ InL (spL (List.length l) (spF l)), InB x ∧ InB y ∧ (0 : Nat) < List.length l]) (s' := ⟨[(0, 2, Cont.cell (AV.bool (bif bif (↑(nst l x y) : Int) == (↑(nst (spL (List.length l) (spF l)) x y) : Int) then 0 == 0 else false then true else false)))], 1761, 77⟩) (by kernel_rfl) (by kernel_rfl) ?_ ?_
        · rw [idx_eta]
          exact ⟨⟨fun i hi => rfl, hl⟩, hxy.1, hxy.2, h0⟩
        rw [idx_eta, beq_self_eq_true]
        refine evC_ret ?_
        refine post_ret ?_
        refine ends_flat (vs := [AV.bool true]) (Nat.zero_lt_succ _) (by kernel_rfl) (flat_of _ (by kernel_rfl)) rfl ?_
        rfl
  · cases e
def sNearNearest : Spec := fun args _ _ => match args with
  | [.agg [.rs 2 n false f, .int .i64 x, .int .i64 y, .int .i64 r]] => some ⟨[(∀ i, i < n → f i = c2 f i) ∧ n ≤ maxLen], .bool true, [], []⟩
  | _ => none
/-- NearNearest answers true, whatever it is asked. -/
theorem nearNearest_ok : SpecOK Try.prog 4 sNearNearest := by
  refine spec_two nearNearestB_ok nearNearestG_ok (fun args hr nb out e x hx => ?_) fun args hr nb out e hs => ?_
  · unfold sNearNearest at e
    split at e
    · injection e with e; subst e; cases hx
    · cases e
  · unfold sNearNearest at e
    split at e
    · rename_i n f x y r
      injection e with e; subst e
      have h1 := hs _ List.mem_cons_self
      have h1 : (∀ i, i < n → f i = spF (spL n f) i) ∧ n ≤ maxLen := ⟨c2_sp h1.1, h1.2⟩
      cases h : mayB ((spL n f).take (fewN n)) with
      | false => exact ⟨[_, _], fun q hq => (by
          rcases List.mem_cons.1 hq with rfl | hq
          · exact h1
          · rw [List.mem_singleton.1 hq]; exact h), .inl rfl⟩
      | true => exact ⟨[_, _], fun q hq => (by
          rcases List.mem_cons.1 hq with rfl | hq
          · exact h1
          · rw [List.mem_singleton.1 hq]; exact h), .inr rfl⟩
    · cases e
end Go.Eng.S12
