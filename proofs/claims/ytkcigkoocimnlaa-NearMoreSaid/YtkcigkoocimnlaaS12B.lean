/- Seat 12: may, In, May, Far, far, few, same, walked. -/
import Derived.Test.YtkcigkoocimnlaaEngX
import Derived.Test.YtkcigkoocimnlaaS12A
set_option linter.unusedSimpArgs false
set_option linter.unusedVariables false
namespace Go.Eng.S12
open Go.Proofs Go.IntWalk
set_option maxRecDepth 10000

def inb (v : Int) : Bool := decide (0 ≤ v) && decide (v ≤ 67108864)
theorem inb_iff {v : Int} : inb v = true ↔ InB v := by simp [inb, InB]
theorem inb_not {v : Int} : inb v = false ↔ ¬ InB v := by rw [← inb_iff]; cases inb v <;> simp
def allIn (m : Nat) (f : Nat → AV) : Bool := (List.range m).all fun i => inb (iv (f i))
theorem allIn1 (x : Int) : allIn 1 (pget [(0, AV.int .i64 x)]) = inb x := by simp [allIn, List.range_succ, pget, iv]
theorem allIn2 (x y : Int) : allIn 2 (pget [(0, AV.int .i64 x), (1, AV.int .i64 y)]) = (inb x && inb y) := by simp [allIn, List.range_succ, pget, iv]
theorem allIn3 (x y z : Int) : allIn 3 (pget [(0, AV.int .i64 x), (1, AV.int .i64 y), (2, AV.int .i64 z)]) = (inb x && inb y && inb z) := by simp [allIn, List.range_succ, pget, iv, Bool.and_assoc]
def sMay : Spec := fun args hr _ => match args with
  | [v] => match sl 1 hr v with
    | some (m, f, rd) => some ⟨[(∀ i, i < m → f i = c1 f i) ∧ m ≤ 3], .bool (allIn m f), rd, []⟩
    | none => none
  | _ => none
theorem c1_flat (f : Nat → AV) (i : Nat) : Flat (c1 f i) := .int _ _
theorem may_ok : SpecOK Try.prog 20 sMay := by
  refine spec_own (by kernel_rfl) T_ok sget_nil Try.func20 rfl rfl fun args hr nb out e => ?_
  unfold sMay at e
  split at e
  · rename_i v
    split at e
    · rename_i m f rd hs1
      injection e with e; subst e
      refine ⟨fun x hx => sl_rd hs1 x hx, false, [.rs 1 m false (c1 f)], rfl, fun hs => ?_⟩
      obtain ⟨h1, h2⟩ := hs _ List.mem_cons_self
      refine ⟨.cons _ _ _ _ (.slice _ _ _ _ _ hs1 (fun y hy => ⟨hy, by simp⟩) _ fun i hi => ⟨h1 i hi, (c1_flat f i).has⟩) .nil, ?_⟩
      clear hs
      refine evC_go0 (dec := []) (ks := [(0, 0), (0, 2)]) (s' := ⟨[(0, 0, Cont.cell (AV.rs 1 m false (c1 f))), (0, 2, Cont.cell (AV.bool false))], 33, 18⟩) (by kernel_rfl) (by kernel_rfl) ?_
      refine evC_seq ?_
      refine evC_go0 (dec := []) (ks := [(0, 2), (0, 5), (0, 6), (0, 7)]) (s' := ⟨[(0, 2, Cont.cell (AV.bool false)), (0, 5, Cont.cell (AV.rs 1 m false (c1 f))), (0, 6, Cont.cell (AV.int IntKind.i64 (↑m : Int))), (0, 7, Cont.cell (AV.int IntKind.i64 0))], 129, 18⟩) (by kernel_rfl) (by kernel_rfl) ?_
      refine evC_block ?_
      refine evC_loop (ι := { i : Nat // i ≤ m ∧ ∀ j, j < i → inb (iv (f j)) = true }) (fun x => ⟨[(0, 2, Cont.cell (AV.bool false)), (0, 5, Cont.cell (AV.rs 1 m false (c1 f))), (0, 6, Cont.cell (AV.int IntKind.i64 (↑m : Int))), (0, 7, .cell (.int .i64 (x.1 : Nat)))], 1, 18⟩) (fun x => m - x.1) ⟨0, Nat.zero_le _, fun j hj => absurd hj (Nat.not_lt_zero j)⟩ (wk_go [] rfl (by decide) rfl rfl ⟨⟨_, rfl, rfl⟩, ⟨_, rfl, rfl⟩, ⟨_, rfl, rfl⟩, ⟨_, rfl, rfl⟩, trivial⟩) ?_
      rintro ⟨i, hin, hj⟩
      refine evC_go0 (dec := []) (ks := [(0, 2), (0, 5), (0, 6), (0, 7), (0, 8)]) (s' := ⟨[(0, 2, Cont.cell (AV.bool false)), (0, 5, Cont.cell (AV.rs 1 m false (c1 f))), (0, 6, Cont.cell (AV.int IntKind.i64 (↑m : Int))), (0, 7, Cont.cell (AV.int IntKind.i64 (↑i : Int))), (0, 8, Cont.cell (AV.bool (decide ((↑i : Int) < (↑m : Int)))))], 33, 18⟩) (by kernel_rfl) (by kernel_rfl) ?_
      refine evC_seq ?_
      refine evC_if (q := decide ((↑i : Int) < (↑m : Int))) (by kernel_rfl) (fun hc => ?_) (fun hc => ?_)
      · have hlt : (i : Int) < (m : Int) := of_decide_eq_true hc
        clear hc
        refine evC_skip ?_
        refine then_normal ?_
        refine evC_seq ?_
        refine evC_block ?_
        refine evC_go (dec := []) (ks := [(0, 2), (0, 4), (0, 5), (0, 6), (0, 7)]) (ps := [(0 : Int) ≤ (↑i : Int), (↑i : Int) < (↑m : Int), (1 : Nat) = (1 : Nat)]) (s' := ⟨[(0, 2, Cont.cell (AV.bool false)), (0, 4, Cont.cell (AV.int IntKind.i64 (iv (f i)))), (0, 5, Cont.cell (AV.rs 1 m false (c1 f))), (0, 6, Cont.cell (AV.int IntKind.i64 (↑m : Int))), (0, 7, Cont.cell (AV.int IntKind.i64 (↑i : Int)))], 129, 18⟩) (by kernel_rfl) (by kernel_rfl) ?_ ?_
        · exact ⟨by omega, hlt, rfl⟩
        have hb : (bif decide (iv (f i) < 0) then true else decide (iv (f i) > 67108864)) = !inb (iv (f i)) := by
          unfold inb
          by_cases h1 : iv (f i) < 0 <;> by_cases h2 : iv (f i) > 67108864 <;> simp [h1, h2] <;> omega
        refine evC_go0 (dec := []) (ks := [(0, 2), (0, 5), (0, 6), (0, 7), (0, 16)]) (s' := ⟨[(0, 2, Cont.cell (AV.bool false)), (0, 5, Cont.cell (AV.rs 1 m false (c1 f))), (0, 6, Cont.cell (AV.int IntKind.i64 (↑m : Int))), (0, 7, Cont.cell (AV.int IntKind.i64 (↑i : Int))), (0, 16, Cont.cell (AV.bool (bif decide (iv (f i) < 0) then true else decide (iv (f i) > 67108864))))], 321, 18⟩) (by kernel_rfl) (by kernel_rfl) ?_
        rw [hb]
        refine evC_if (q := !inb (iv (f i))) (by kernel_rfl) (fun hc => ?_) (fun hc => ?_)
        · have hf : inb (iv (f i)) = false := by simpa using hc
          refine evC_go0 (dec := []) (ks := [(0, 2), (0, 5), (0, 6), (0, 7)]) (s' := ⟨[(0, 2, Cont.cell (AV.bool false)), (0, 5, Cont.cell (AV.rs 1 m false (c1 f))), (0, 6, Cont.cell (AV.int IntKind.i64 (↑m : Int))), (0, 7, Cont.cell (AV.int IntKind.i64 (↑i : Int)))], 353, 18⟩) (by kernel_rfl) (by kernel_rfl) ?_
          refine evC_ret ?_
          refine block_ret ?_
          refine then_ret ?_
          refine round_ret ?_
          refine block_ret ?_
          refine then_ret ?_
          refine post_ret ?_
          refine ends_flat (vs := [AV.bool false]) (Nat.zero_lt_succ _) (by kernel_rfl) (flat_of _ (by kernel_rfl)) rfl ?_
          have : allIn m f = false := by unfold allIn; exact all_false (i := i) (by omega) hf
          rw [this]; rfl
        · have hf : inb (iv (f i)) = true := by simpa using hc
          refine evC_skip ?_
          refine block_normal ?_
          refine then_normal ?_
          refine evC_goL0 (dec := []) (ks := [(0, 2), (0, 5), (0, 6), (0, 7)]) (s' := ⟨[(0, 2, Cont.cell (AV.bool false)), (0, 5, Cont.cell (AV.rs 1 m false (c1 f))), (0, 6, Cont.cell (AV.int IntKind.i64 (↑m : Int))), (0, 7, Cont.cell (AV.int IntKind.i64 (IntKind.i64.wrap ((↑i : Int) + 1))))], 385, 18⟩) (by kernel_rfl) (by kernel_rfl) ?_
          rw [wrap_add_one (by omega : i < m) (by omega)]
          refine round_normal (⟨i + 1, by omega, fun j hj' => ?_⟩) (wk_go [] rfl (by decide) rfl rfl ⟨⟨_, rfl, rfl⟩, ⟨_, rfl, rfl⟩, ⟨_, rfl, rfl⟩, ⟨_, rfl, rfl⟩, trivial⟩) ?_
          · rcases Nat.lt_or_ge j i with h | h
            · exact hj j h
            · have : j = i := by omega
              subst this; exact hf
          · show m - (i + 1) < m - i; omega
      · have hlt : ¬ (i : Int) < (m : Int) := of_decide_eq_false hc
        refine evC_exit ?_
        refine then_exit ?_
        refine round_exit ?_
        refine block_exit ?_
        refine then_normal ?_
        refine evC_go0 (dec := []) (ks := [(0, 2)]) (s' := ⟨[(0, 2, Cont.cell (AV.bool true))], 65, 18⟩) (by kernel_rfl) (by kernel_rfl) ?_
        refine evC_ret ?_
        refine post_ret ?_
        refine ends_flat (vs := [AV.bool true]) (Nat.zero_lt_succ _) (by kernel_rfl) (flat_of _ (by kernel_rfl)) rfl ?_
        have : allIn m f = true := all_true fun j hj' => hj j (by omega)
        rw [this]; rfl
    · cases e
  · cases e
def sIn : Spec := fun args _ _ => match args with
  | [.int .i64 v] => some ⟨[], .bool (inb v), [], []⟩
  | _ => none
theorem in_ok : SpecOK Try.prog 11 sIn := by
  refine spec_own (by kernel_rfl) T_ok sget_nil Try.func11 rfl rfl fun args hr nb out e => ?_
  unfold sIn at e
  split at e
  · rename_i v
    injection e with e; subst e
    refine ⟨(fun _ h => nomatch h), true, [.int .i64 v], rfl, fun hs => ⟨.cons _ _ _ _ (.same _ _ (.int _ _)) .nil, ?_⟩⟩
    refine evC_go0 (dec := []) (ks := [(0, 0), (0, 2)]) (s' := ⟨[(0, 0, Cont.cell (AV.int IntKind.i64 v)), (0, 2, Cont.cell (AV.bool false))], 33, 9⟩) (by kernel_rfl) (by kernel_rfl) ?_
    refine evC_go0 (dec := []) (ks := [(0, 2)]) (s' := ⟨[(0, 2, Cont.cell (AV.bool (bif decide (0 ≤ v) then decide (v ≤ 67108864) else false)))], 257, 9⟩) (by kernel_rfl) (by kernel_rfl) ?_
    refine evC_ret ?_
    refine post_ret ?_
    refine ends_flat (vs := [AV.bool (bif decide (0 ≤ v) then decide (v ≤ 67108864) else false)]) (Nat.zero_lt_succ _) (by kernel_rfl) (flat_of _ (by kernel_rfl)) rfl ?_
    simp only [cond_and, oneAV, inb]
  · cases e
/-- A distance's square, as it is reckoned. -/
def farW (s : Sp) (x y : Int) : Int := IntKind.i64.wrap (IntKind.i64.wrap (IntKind.i64.wrap (s.1 - x) * IntKind.i64.wrap (s.1 - x)) + IntKind.i64.wrap (IntKind.i64.wrap (s.2 - y) * IntKind.i64.wrap (s.2 - y)))
def farI (s : Sp) (x y : Int) : Int := (s.1 - x) * (s.1 - x) + (s.2 - y) * (s.2 - y)
theorem sq_rng {d : Int} (h : -67108864 ≤ d ∧ d ≤ 67108864) : 0 ≤ d * d ∧ d * d ≤ 4503599627370496 := by
  have h1 : d * d = d.natAbs * d.natAbs := (Int.natAbs_mul_self).symm
  have h2 : d.natAbs ≤ 67108864 := by omega
  have h3 : d.natAbs * d.natAbs ≤ 67108864 * 67108864 := Nat.mul_le_mul h2 h2
  rw [h1]
  constructor
  · omega
  · have : ((d.natAbs * d.natAbs : Nat) : Int) ≤ 4503599627370496 := by omega
    simpa using this
theorem farW_eq {s : Sp} {x y : Int} (h1 : InB s.1) (h2 : InB s.2) (hx : InB x) (hy : InB y) : farW s x y = farI s x y := by
  unfold InB at h1 h2 hx hy
  have a := sq_rng (d := s.1 - x) (by omega)
  have b := sq_rng (d := s.2 - y) (by omega)
  unfold farW farI
  rw [i64_in (n := s.1 - x) (by omega), i64_in (n := s.2 - y) (by omega), i64_in (n := (s.1 - x) * (s.1 - x)) (by omega), i64_in (n := (s.2 - y) * (s.2 - y)) (by omega), i64_in (n := (s.1 - x) * (s.1 - x) + (s.2 - y) * (s.2 - y)) (by omega)]
theorem farI_rng {s : Sp} {x y : Int} (h1 : InB s.1) (h2 : InB s.2) (hx : InB x) (hy : InB y) : 0 ≤ farI s x y ∧ farI s x y ≤ 9007199254740992 := by
  unfold InB at h1 h2 hx hy
  have a := sq_rng (d := s.1 - x) (by omega)
  have b := sq_rng (d := s.2 - y) (by omega)
  unfold farI
  omega
def sFar : Spec := fun args _ _ => match args with
  | [.agg [.int .i64 a, .int .i64 b], .int .i64 x, .int .i64 y] => some ⟨[], .int .i64 (farW (a, b) x y), [], []⟩
  | _ => none
theorem refFar_ok : SpecOK Try.prog 17 sFar := by
  refine spec_own (by kernel_rfl) T_ok sget_nil Try.func17 rfl rfl fun args hr nb out e => ?_
  unfold sFar at e
  split at e
  · rename_i a b x y
    injection e with e; subst e
    refine ⟨(fun _ h => nomatch h), true, [.agg [.int .i64 a, .int .i64 b], .int .i64 x, .int .i64 y], rfl, fun hs => ⟨.cons _ _ _ _ (.same _ _ (has_of _ rfl)) (.cons _ _ _ _ (.same _ _ (.int _ _)) (.cons _ _ _ _ (.same _ _ (.int _ _)) .nil)), ?_⟩⟩
    refine evC_go0 (dec := []) (ks := [(0, 1), (0, 2), (0, 3), (0, 6), (1, 0), (1, 1), (1, 2)]) (s' := ⟨[(0, 1, Cont.cell (AV.int IntKind.i64 x)), (0, 2, Cont.cell (AV.int IntKind.i64 y)), (0, 3, Cont.cell (AV.ptr 1 0)), (0, 6, Cont.cell (AV.int IntKind.i64 0)), (1, 0, Cont.cell (AV.int IntKind.i64 a)), (1, 1, Cont.cell (AV.int IntKind.i64 b)), (1, 2, Cont.top)], 65, 26⟩) (by kernel_rfl) (by kernel_rfl) ?_
    refine evC_go0 (dec := []) (ks := [(0, 6)]) (s' := ⟨[(0, 6, Cont.cell (AV.int IntKind.i64 (IntKind.i64.wrap (IntKind.i64.wrap (IntKind.i64.wrap (a - x) * IntKind.i64.wrap (a - x)) + IntKind.i64.wrap (IntKind.i64.wrap (b - y) * IntKind.i64.wrap (b - y))))))], 705, 26⟩) (by kernel_rfl) (by kernel_rfl) ?_
    refine evC_ret ?_
    refine post_ret ?_
    refine ends_flat (vs := [AV.int IntKind.i64 (IntKind.i64.wrap (IntKind.i64.wrap (IntKind.i64.wrap (a - x) * IntKind.i64.wrap (a - x)) + IntKind.i64.wrap (IntKind.i64.wrap (b - y) * IntKind.i64.wrap (b - y))))]) (Nat.zero_lt_succ _) (by kernel_rfl) (flat_of _ (by kernel_rfl)) rfl ?_
    rfl
  · cases e
def sIdxFar : Spec := fun args hr _ => match args with
  | [v, .int .i64 i, .int .i64 x, .int .i64 y] => withIdxC hr v fun n b l s rd => some ⟨[s, 0 ≤ i ∧ i < l.length], .int .i64 (farW (l.getD i.toNat (0, 0)) x y), rd, []⟩
  | _ => none
theorem far_ok : SpecOK Try.prog 22 sIdxFar := by
  refine spec_at (by kernel_rfl) T_ok sget_nil Try.func22 rfl rfl fun args hr nb out e => ?_
  unfold sIdxFar at e
  split at e
  · rename_i v i x y
    obtain ⟨n, b, l, c, s, rd, rfl, e, hrd, hs0, hs1⟩ := idxC_open e
    injection e with e; subst e
    refine ⟨hrd, true, [n, b], [.ptr 1 0, .int .i64 i, .int .i64 x, .int .i64 y], iconC 1 2 l c, rfl, fun hs => ?_⟩
    obtain ⟨⟨hcc, hl⟩, k1, k2, k3⟩ := hs0 (hs _ List.mem_cons_self)
    have k4 := hs1 (hs _ List.mem_cons_self) [] nb
    obtain ⟨h1, h2⟩ := hs _ (List.mem_cons_of_mem _ List.mem_cons_self)
    refine ⟨k1, fun z hz => ⟨(k2 z hz).1, (k2 z hz).2 _ fun x hx => hx⟩, .cons _ _ _ _ (.name _ _ _ rfl) (.cons _ _ _ _ (.same _ _ (.int _ _)) (.cons _ _ _ _ (.same _ _ (.int _ _)) (.cons _ _ _ _ (.same _ _ (.int _ _)) .nil))), k3 _ _, ?_⟩
    clear hs hs0 hs1 k1 k2 k3 hrd
    unfold iconC sps
    refine evC_go0 (dec := []) (ks := [(0, 0), (0, 1), (0, 2), (0, 3), (0, 8), (1, 0), (1, 1), (1, 2), (2, 0)]) (s' := ⟨[(0, 0, Cont.cell (AV.ptr 1 0)), (0, 1, Cont.cell (AV.int IntKind.i64 i)), (0, 2, Cont.cell (AV.int IntKind.i64 x)), (0, 3, Cont.cell (AV.int IntKind.i64 y)), (0, 8, Cont.cell (AV.int IntKind.i64 0)), (1, 0, Cont.cell (AV.rs 2 (List.length l) false (spF l))), (1, 1, Cont.cell (AV.mp 2)), (1, 2, Cont.top), (2, 0, c)], 35, 38⟩) (by kernel_rfl) (by kernel_rfl) ?_
    refine evC_go (dec := []) (ks := [(0, 8), (0, 9), (0, 10), (1, 0), (1, 1), (1, 2), (2, 0)]) (ps := [(0 : Int) ≤ i, i < (↑(List.length l) : Int), (2 : Nat) = (2 : Nat), (0 : Int) ≤ i, i < (↑(List.length l) : Int), (2 : Nat) = (2 : Nat)]) (s' := ⟨[(0, 8, Cont.cell (AV.int IntKind.i64 0)), (0, 9, Cont.cell (AV.int IntKind.i64 (IntKind.i64.wrap (Prod.fst (List.getD l (Int.toNat i) (0, 0)) - x)))), (0, 10, Cont.cell (AV.int IntKind.i64 (IntKind.i64.wrap (Prod.snd (List.getD l (Int.toNat i) (0, 0)) - y)))), (1, 0, Cont.cell (AV.rs 2 (List.length l) false (spF l))), (1, 1, Cont.cell (AV.mp 2)), (1, 2, Cont.top), (2, 0, c)], 739, 38⟩) (by kernel_rfl) (by kernel_rfl) ?_ ?_
    · (simp only [All]; (repeat' apply And.intro) <;> (try intro _) <;> (try intro _) <;> (repeat' apply And.intro) <;> (try intro _) <;> (try intro _) <;> first | trivial | assumption | exact .inr trivial | exact .inr rfl | omega | rfl | exact ⟨_, rfl, rfl⟩ | exact ⟨rfl, rfl⟩ | exact ⟨fun _ => rfl, fun _ => rfl⟩ | (unfold maxLen; omega) | (unfold i64R; first | omega | decide) | decide)
    refine evC_go0 (dec := []) (ks := [(0, 8), (1, 0), (1, 1), (1, 2), (2, 0)]) (s' := ⟨[(0, 8, Cont.cell (AV.int IntKind.i64 (IntKind.i64.wrap (IntKind.i64.wrap (IntKind.i64.wrap (Prod.fst (List.getD l (Int.toNat i) (0, 0)) - x) * IntKind.i64.wrap (Prod.fst (List.getD l (Int.toNat i) (0, 0)) - x)) + IntKind.i64.wrap (IntKind.i64.wrap (Prod.snd (List.getD l (Int.toNat i) (0, 0)) - y) * IntKind.i64.wrap (Prod.snd (List.getD l (Int.toNat i) (0, 0)) - y)))))), (1, 0, Cont.cell (AV.rs 2 (List.length l) false (spF l))), (1, 1, Cont.cell (AV.mp 2)), (1, 2, Cont.top), (2, 0, c)], 995, 38⟩) (by kernel_rfl) (by kernel_rfl) ?_
    refine evC_ret ?_
    refine post_ret ?_
    refine ends_go [] (AV.int IntKind.i64 (IntKind.i64.wrap (IntKind.i64.wrap (IntKind.i64.wrap (Prod.fst (List.getD l (Int.toNat i) (0, 0)) - x) * IntKind.i64.wrap (Prod.fst (List.getD l (Int.toNat i) (0, 0)) - x)) + IntKind.i64.wrap (IntKind.i64.wrap (Prod.snd (List.getD l (Int.toNat i) (0, 0)) - y) * IntKind.i64.wrap (Prod.snd (List.getD l (Int.toNat i) (0, 0)) - y))))) [(1, 0, Cont.cell (AV.rs 2 (List.length l) false (spF l))), (1, 1, Cont.cell (AV.mp 2)), (1, 2, Cont.top), (2, 0, c)] rfl (by decide) rfl rfl (has_of _ rfl) rfl ⟨⟨_, rfl, rfl⟩, ⟨_, rfl, rfl⟩, ⟨_, rfl, trivial⟩, ⟨_, rfl, Go.Eng.S12.cw_idx (by assumption)⟩, trivial⟩ trivial ?_
    exact k4 _ _ (by simp [iconC, hget, sps])
  · cases e
/-! ### few, same, May -/
def fewN (n : Nat) : Nat := if 258 < n then 258 else n
theorem fewN_le (n : Nat) : fewN n ≤ n ∧ fewN n ≤ 258 := by unfold fewN; split <;> omega
def sFew : Spec := fun args _ _ => match args with
  | [.rs 2 n false f] => some ⟨[(∀ i, i < n → f i = spF (spL n f) i) ∧ n ≤ maxLen], sps ((spL n f).take (fewN n)), [], []⟩
  | _ => none
theorem spF_take (l : List Sp) (k : Nat) {i : Nat} (h : i < k) : spF (l.take k) i = spF l i := by
  unfold spF
  rw [List.getD_eq_getElem?_getD, List.getD_eq_getElem?_getD, List.getElem?_take, if_pos h]
theorem few_ok : SpecOK Try.prog 7 sFew := by
  refine spec_own (by kernel_rfl) T_ok sget_nil Try.func7 rfl rfl fun args hr nb out e => ?_
  unfold sFew at e
  split at e
  · rename_i n f
    injection e with e; subst e
    refine ⟨(fun _ h => nomatch h), true, [.rs 2 n false (spF (spL n f))], rfl, fun hs => ?_⟩
    obtain ⟨h1, h2⟩ := hs _ List.mem_cons_self
    refine ⟨.cons _ _ _ _ (.rs _ _ _ _ _ _ fun i hi => ⟨h1 i hi, (spF_flat _ i).has⟩) .nil, ?_⟩
    have hlen : ((spL n f).take (fewN n)).length = fewN n := by rw [List.length_take, spL_len]; have := fewN_le n; omega
    have hvi : VI (.rs 2 (fewN n) false (spF (spL n f))) (sps ((spL n f).take (fewN n))) := by
      unfold sps
      rw [hlen]
      exact vi_rs fun i hi => (spF_take _ _ hi).symm
    have fin : ∀ (s : St) (h0 : 0 < s.nx) (hN : evRVs T s.h Try.f7.results.toList = some ([sps ((spL n f).take (fewN n))], [])), Ends T Try.f7 [] nb ⟨[(∀ i, i < n → f i = spF (spL n f) i) ∧ n ≤ maxLen], sps ((spL n f).take (fewN n)), [], []⟩ true s := fun s h0 hN =>
      ends_go [] (sps ((spL n f).take (fewN n))) [] (by have : Nat.blt 0 s.nx = true := by simpa [Nat.blt_eq] using h0
                                                        simp [this]) List.nodup_nil hN rfl (sps_has _) rfl trivial trivial (kept_nil _)
    clear hs
    refine evC_go0 (dec := []) (ks := [(0, 0), (0, 2)]) (s' := ⟨[(0, 0, Cont.cell (AV.rs 2 n false (spF (spL n f)))), (0, 2, Cont.cell AV.nils)], 33, 9⟩) (by kernel_rfl) (by kernel_rfl) ?_
    refine evC_seq ?_
    refine evC_go0 (dec := []) (ks := [(0, 0), (0, 2), (0, 5)]) (s' := ⟨[(0, 0, Cont.cell (AV.rs 2 n false (spF (spL n f)))), (0, 2, Cont.cell AV.nils), (0, 5, Cont.cell (AV.bool (decide ((↑n : Int) > 258))))], 129, 9⟩) (by kernel_rfl) (by kernel_rfl) ?_
    refine evC_if (q := decide ((↑n : Int) > 258)) (by kernel_rfl) (fun hc => ?_) (fun hc => ?_)
    · have hn : 258 < n := by have := of_decide_eq_true hc; omega
      have e0 : fewN n = 258 := by simp [fewN, hn]
      rw [e0] at hvi fin ⊢
      refine evC_go (dec := []) (ks := [(0, 0), (0, 2)]) (ps := [(0 : Int) ≤ (0 : Int), (0 : Int) ≤ (258 : Int), (258 : Int) ≤ (↑n : Int), (258 : Int) = (258 : Int), (2 : Nat) = (2 : Nat), false = true → true = true]) (s' := ⟨[(0, 0, Cont.cell (AV.rs 2 n false (spF (spL n f)))), (0, 2, Cont.cell (AV.rs 2 258 false fun i => spF (spL n f) (Int.toNat 0 + i)))], 225, 9⟩) (by kernel_rfl) (by kernel_rfl) ?_ ?_
      · exact ⟨by omega, by omega, by omega, rfl, rfl, fun h => nomatch h⟩
      refine evC_ret ?_
      refine then_ret ?_
      refine post_ret ?_
      refine ends_wk (.imp 0 2 _ (sps (List.take 258 (spL n f))) rfl ?_) ?_
      · have : (fun i => spF (spL n f) ((0 : Int).toNat + i)) = spF (spL n f) := by funext i; rw [Int.toNat_zero, Nat.zero_add]
        have h3 : ((258 : Int).toNat - (0 : Int).toNat) = 258 := rfl
        show VI (.rs 2 258 false fun i => spF (spL n f) ((0 : Int).toNat + i)) _
        rw [this]
        exact hvi
      exact fin _ (Nat.succ_pos _) rfl
    · have hn : ¬ 258 < n := by have := of_decide_eq_false hc; omega
      have e0 : fewN n = n := by simp [fewN, hn]
      rw [e0] at hvi fin ⊢
      refine evC_skip ?_
      refine then_normal ?_
      refine evC_go0 (dec := []) (ks := [(0, 2)]) (s' := ⟨[(0, 2, Cont.cell (AV.rs 2 n false (spF (spL n f))))], 193, 9⟩) (by kernel_rfl) (by kernel_rfl) ?_
      refine evC_ret ?_
      refine post_ret ?_
      refine ends_wk (.imp 0 2 _ (sps (List.take n (spL n f))) rfl ?_) ?_
      · exact hvi
      exact fin _ (Nat.succ_pos _) rfl
  · cases e
def eqL (n m : Nat) (f g : Nat → AV) : Bool := decide (n = m) && (List.range n).all fun i => iv (f i) == iv (g i)
theorem eqL_lst (L M : List Int) : eqL L.length M.length (lst L) (lst M) = (L == M) := by
  rw [Bool.eq_iff_iff]
  simp only [eqL, Bool.and_eq_true, decide_eq_true_eq, List.all_eq_true, List.mem_range, beq_iff_eq]
  constructor
  · rintro ⟨h1, h2⟩
    refine List.ext_getElem h1 fun i i1 i2 => ?_
    have := h2 i i1
    simp only [lst, iv, List.getD_eq_getElem?_getD, List.getElem?_eq_getElem i1, List.getElem?_eq_getElem i2, Option.getD_some] at this
    exact this
  · rintro rfl
    exact ⟨rfl, fun i _ => rfl⟩
def sSame : Spec := fun args _ _ => match args with
  | [.rs 1 n false f, .rs 1 m false g] => some ⟨[(∀ i, i < n → f i = c1 f i) ∧ (∀ i, i < m → g i = c1 g i) ∧ n ≤ 300 ∧ m ≤ 300], .bool (eqL n m f g), [], []⟩
  | _ => none
theorem same_ok : SpecOK Try.prog 12 sSame := by
  refine spec_own (by kernel_rfl) T_ok sget_nil Try.func12 rfl rfl fun args hr nb out e => ?_
  unfold sSame at e
  split at e
  · rename_i n f m g
    injection e with e; subst e
    refine ⟨(fun _ h => nomatch h), true, [.rs 1 n false (c1 f), .rs 1 m false (c1 g)], rfl, fun hs => ?_⟩
    obtain ⟨h1, h2, h3, h4⟩ := hs _ List.mem_cons_self
    refine ⟨.cons _ _ _ _ (.rs _ _ _ _ _ _ fun i hi => ⟨h1 i hi, (c1_flat f i).has⟩) (.cons _ _ _ _ (.rs _ _ _ _ _ _ fun i hi => ⟨h2 i hi, (c1_flat g i).has⟩) .nil), ?_⟩
    clear hs
    refine evC_go0 (dec := []) (ks := [(0, 0), (0, 1), (0, 4)]) (s' := ⟨[(0, 0, Cont.cell (AV.rs 1 n false (c1 f))), (0, 1, Cont.cell (AV.rs 1 m false (c1 g))), (0, 4, Cont.cell (AV.bool false))], 33, 26⟩) (by kernel_rfl) (by kernel_rfl) ?_
    refine evC_seq ?_
    refine evC_go0 (dec := []) (ks := [(0, 0), (0, 1), (0, 4), (0, 10)]) (s' := ⟨[(0, 0, Cont.cell (AV.rs 1 n false (c1 f))), (0, 1, Cont.cell (AV.rs 1 m false (c1 g))), (0, 4, Cont.cell (AV.bool false)), (0, 10, Cont.cell (AV.bool ((↑n : Int) != (↑m : Int))))], 193, 26⟩) (by kernel_rfl) (by kernel_rfl) ?_
    refine evC_if (q := (↑n : Int) != (↑m : Int)) (by kernel_rfl) (fun hc => ?_) (fun hc => ?_)
    · have hne : n ≠ m := by
        intro h
        subst h
        simp at hc
      refine evC_go0 (dec := []) (ks := [(0, 0), (0, 1), (0, 4)]) (s' := ⟨[(0, 0, Cont.cell (AV.rs 1 n false (c1 f))), (0, 1, Cont.cell (AV.rs 1 m false (c1 g))), (0, 4, Cont.cell (AV.bool false))], 225, 26⟩) (by kernel_rfl) (by kernel_rfl) ?_
      refine evC_ret ?_
      refine then_ret ?_
      refine post_ret ?_
      refine ends_flat (vs := [AV.bool false]) (Nat.zero_lt_succ _) (by kernel_rfl) (flat_of _ (by kernel_rfl)) rfl ?_
      have : eqL n m f g = false := by simp [eqL, hne]
      rw [this]; rfl
    · have hnm : n = m := by
        simp at hc
        omega
      subst hnm
      clear hc
      refine evC_skip ?_
      refine then_normal ?_
      refine evC_seq ?_
      refine evC_go0 (dec := []) (ks := [(0, 0), (0, 1), (0, 4), (0, 5)]) (s' := ⟨[(0, 0, Cont.cell (AV.rs 1 n false (c1 f))), (0, 1, Cont.cell (AV.rs 1 n false (c1 g))), (0, 4, Cont.cell (AV.bool false)), (0, 5, Cont.cell (AV.int IntKind.i64 0))], 225, 26⟩) (by kernel_rfl) (by kernel_rfl) ?_
      refine evC_block ?_
      refine evC_loop (ι := { i : Nat // i ≤ n ∧ ∀ j, j < i → (iv (f j) == iv (g j)) = true }) (fun x => ⟨[(0, 0, Cont.cell (AV.rs 1 n false (c1 f))), (0, 1, Cont.cell (AV.rs 1 n false (c1 g))), (0, 4, Cont.cell (AV.bool false)), (0, 5, .cell (.int .i64 (x.1 : Nat)))], 1, 26⟩) (fun x => n - x.1) ⟨0, Nat.zero_le _, fun j hj => absurd hj (Nat.not_lt_zero j)⟩ (wk_go [] rfl (by decide) rfl rfl ⟨⟨_, rfl, rfl⟩, ⟨_, rfl, rfl⟩, ⟨_, rfl, rfl⟩, ⟨_, rfl, rfl⟩, trivial⟩) ?_
      rintro ⟨i, hin, hj⟩
      refine evC_seq ?_
      refine evC_go0 (dec := []) (ks := [(0, 0), (0, 1), (0, 4), (0, 5), (0, 14)]) (s' := ⟨[(0, 0, Cont.cell (AV.rs 1 n false (c1 f))), (0, 1, Cont.cell (AV.rs 1 n false (c1 g))), (0, 4, Cont.cell (AV.bool false)), (0, 5, Cont.cell (AV.int IntKind.i64 (↑i : Int))), (0, 14, Cont.cell (AV.bool (decide ((↑i : Int) < (↑n : Int)))))], 129, 26⟩) (by kernel_rfl) (by kernel_rfl) ?_
      refine evC_if (q := decide ((↑i : Int) < (↑n : Int))) (by kernel_rfl) (fun hc => ?_) (fun hc => ?_)
      · have hlt : (i : Int) < (n : Int) := of_decide_eq_true hc
        clear hc
        refine evC_skip ?_
        refine then_normal ?_
        refine evC_seq ?_
        refine evC_block ?_
        refine evC_go (dec := []) (ks := [(0, 0), (0, 1), (0, 4), (0, 5), (0, 25)]) (ps := [(0 : Int) ≤ (↑i : Int), (↑i : Int) < (↑n : Int), (1 : Nat) = (1 : Nat), (0 : Int) ≤ (↑i : Int), (↑i : Int) < (↑n : Int), (1 : Nat) = (1 : Nat)]) (s' := ⟨[(0, 0, Cont.cell (AV.rs 1 n false (c1 f))), (0, 1, Cont.cell (AV.rs 1 n false (c1 g))), (0, 4, Cont.cell (AV.bool false)), (0, 5, Cont.cell (AV.int IntKind.i64 (↑i : Int))), (0, 25, Cont.cell (AV.bool (iv (f i) != iv (g i))))], 417, 26⟩) (by kernel_rfl) (by kernel_rfl) ?_ ?_
        · (simp only [All]; (repeat' apply And.intro) <;> (try intro _) <;> (try intro _) <;> (repeat' apply And.intro) <;> (try intro _) <;> (try intro _) <;> first | trivial | assumption | exact .inr trivial | exact .inr rfl | omega | rfl | exact ⟨_, rfl, rfl⟩ | exact ⟨rfl, rfl⟩ | exact ⟨fun _ => rfl, fun _ => rfl⟩ | (unfold maxLen; omega) | (unfold i64R; first | omega | decide) | decide)
        refine evC_if (q := iv (f i) != iv (g i)) (by kernel_rfl) (fun hc => ?_) (fun hc => ?_)
        · have hb : (iv (f i) == iv (g i)) = false := by simpa [c1, iv] using hc
          refine evC_go0 (dec := []) (ks := [(0, 0), (0, 1), (0, 4), (0, 5)]) (s' := ⟨[(0, 0, Cont.cell (AV.rs 1 n false (c1 f))), (0, 1, Cont.cell (AV.rs 1 n false (c1 g))), (0, 4, Cont.cell (AV.bool false)), (0, 5, Cont.cell (AV.int IntKind.i64 (↑i : Int)))], 449, 26⟩) (by kernel_rfl) (by kernel_rfl) ?_
          refine evC_ret ?_
          refine block_ret ?_
          refine then_ret ?_
          refine round_ret ?_
          refine block_ret ?_
          refine then_ret ?_
          refine post_ret ?_
          refine ends_flat (vs := [AV.bool false]) (Nat.zero_lt_succ _) (by kernel_rfl) (flat_of _ (by kernel_rfl)) rfl ?_
          have : eqL n n f g = false := by simp only [eqL]; rw [all_false (i := i) (by omega) hb]; simp
          rw [this]; rfl
        · have hb : (iv (f i) == iv (g i)) = true := by simpa [c1, iv] using hc
          refine evC_skip ?_
          refine block_normal ?_
          refine then_normal ?_
          refine evC_goL0 (dec := []) (ks := [(0, 0), (0, 1), (0, 4), (0, 5)]) (s' := ⟨[(0, 0, Cont.cell (AV.rs 1 n false (c1 f))), (0, 1, Cont.cell (AV.rs 1 n false (c1 g))), (0, 4, Cont.cell (AV.bool false)), (0, 5, Cont.cell (AV.int IntKind.i64 (IntKind.i64.wrap ((↑i : Int) + 1))))], 513, 26⟩) (by kernel_rfl) (by kernel_rfl) ?_
          rw [wrap_add_one (by omega : i < n) (by omega)]
          refine round_normal (⟨i + 1, by omega, fun j hj' => ?_⟩) (wk_go [] rfl (by decide) rfl rfl ⟨⟨_, rfl, rfl⟩, ⟨_, rfl, rfl⟩, ⟨_, rfl, rfl⟩, ⟨_, rfl, rfl⟩, trivial⟩) ?_
          · rcases Nat.lt_or_ge j i with h | h
            · exact hj j h
            · have : j = i := by omega
              subst this; exact hb
          · show n - (i + 1) < n - i; omega
      · have hlt : ¬ (i : Int) < (n : Int) := of_decide_eq_false hc
        refine evC_exit ?_
        refine then_exit ?_
        refine round_exit ?_
        refine block_exit ?_
        refine then_normal ?_
        refine evC_go0 (dec := []) (ks := [(0, 4)]) (s' := ⟨[(0, 4, Cont.cell (AV.bool true))], 161, 26⟩) (by kernel_rfl) (by kernel_rfl) ?_
        refine evC_ret ?_
        refine post_ret ?_
        refine ends_flat (vs := [AV.bool true]) (Nat.zero_lt_succ _) (by kernel_rfl) (flat_of _ (by kernel_rfl)) rfl ?_
        have : eqL n n f g = true := by simp only [eqL]; rw [all_true fun j hj' => hj j (by omega)]; simp
        rw [this]; rfl
  · cases e
def mayB (l : List Sp) : Bool := l.all (fun s => inb s.1 && inb s.2) && decide (l.length ≤ 256)
theorem mayB_iff {l : List Sp} : mayB l = true ↔ InL l := by
  simp only [mayB, InL, Bool.and_eq_true, List.all_eq_true, decide_eq_true_eq, inb_iff]
  exact And.comm
theorem mayB_not {l : List Sp} : mayB l = false ↔ ¬ InL l := by rw [← mayB_iff]; cases mayB l <;> simp
theorem all_getD {l : List Sp} {p : Sp → Bool} : l.all p = (List.range l.length).all fun i => p (l.getD i (0, 0)) := by
  rw [Bool.eq_iff_iff]
  simp only [List.all_eq_true, List.mem_range]
  constructor
  · intro h i hi
    rw [List.getD_eq_getElem?_getD, List.getElem?_eq_getElem hi]
    exact h _ (List.getElem_mem hi)
  · intro h x hx
    obtain ⟨i, hi, rfl⟩ := List.mem_iff_getElem.1 hx
    have := h i hi
    rw [List.getD_eq_getElem?_getD, List.getElem?_eq_getElem hi] at this
    exact this
def sRefMay : Spec := fun args _ _ => match args with
  | [.rs 2 n false f] => some ⟨[(∀ i, i < n → f i = spF (spL n f) i) ∧ n ≤ 258], .bool (mayB (spL n f)), [], []⟩
  | _ => none
theorem refMay_ok : SpecOK Try.prog 19 sRefMay := by
  refine spec_own (by kernel_rfl) T_ok (sget_cons in_ok sget_nil) Try.func19 rfl rfl fun args hr nb out e => ?_
  unfold sRefMay at e
  split at e
  · rename_i n f
    injection e with e; subst e
    refine ⟨(fun _ h => nomatch h), true, [.rs 2 n false (spF (spL n f))], rfl, fun hs => ?_⟩
    obtain ⟨h1, h2⟩ := hs _ List.mem_cons_self
    refine ⟨.cons _ _ _ _ (.rs _ _ _ _ _ _ fun i hi => ⟨h1 i hi, (spF_flat _ i).has⟩) .nil, ?_⟩
    clear hs h1
    obtain ⟨l, hl⟩ : ∃ l, l = spL n f := ⟨_, rfl⟩
    have hn : l.length = n := by rw [hl, spL_len]
    rw [← hl]
    clear hl
    have hm : mayB l = ((List.range n).all (fun i => inb (l.getD i (0, 0)).1 && inb (l.getD i (0, 0)).2) && decide (n ≤ 256)) := by
      unfold mayB
      rw [all_getD, hn]
    refine evC_go0 (dec := []) (ks := [(0, 0), (0, 2)]) (s' := ⟨[(0, 0, Cont.cell (AV.rs 2 n false (spF l))), (0, 2, Cont.cell (AV.bool false))], 33, 29⟩) (by kernel_rfl) (by kernel_rfl) ?_
    refine evC_seq ?_
    refine evC_go0 (dec := []) (ks := [(0, 0), (0, 2), (0, 3)]) (s' := ⟨[(0, 0, Cont.cell (AV.rs 2 n false (spF l))), (0, 2, Cont.cell (AV.bool false)), (0, 3, Cont.cell (AV.int IntKind.i64 0))], 65, 29⟩) (by kernel_rfl) (by kernel_rfl) ?_
    refine evC_block ?_
    refine evC_loop (ι := { i : Nat // i ≤ n ∧ ∀ j, j < i → (inb (l.getD j (0, 0)).1 && inb (l.getD j (0, 0)).2) = true }) (fun x => ⟨[(0, 0, Cont.cell (AV.rs 2 n false (spF l))), (0, 2, Cont.cell (AV.bool false)), (0, 3, .cell (.int .i64 (x.1 : Nat)))], 1, 29⟩) (fun x => n - x.1) ⟨0, Nat.zero_le _, fun j hj => absurd hj (Nat.not_lt_zero j)⟩ (wk_go [] rfl (by decide) rfl rfl ⟨⟨_, rfl, rfl⟩, ⟨_, rfl, rfl⟩, ⟨_, rfl, rfl⟩, trivial⟩) ?_
    rintro ⟨i, hin, hj⟩
    refine evC_seq ?_
    refine evC_go0 (dec := []) (ks := [(0, 0), (0, 2), (0, 3), (0, 7)]) (s' := ⟨[(0, 0, Cont.cell (AV.rs 2 n false (spF l))), (0, 2, Cont.cell (AV.bool false)), (0, 3, Cont.cell (AV.int IntKind.i64 (↑i : Int))), (0, 7, Cont.cell (AV.bool (decide ((↑i : Int) < (↑n : Int)))))], 129, 29⟩) (by kernel_rfl) (by kernel_rfl) ?_
    refine evC_if (q := decide ((↑i : Int) < (↑n : Int))) (by kernel_rfl) (fun hc => ?_) (fun hc => ?_)
    · have hlt : (i : Int) < (n : Int) := of_decide_eq_true hc
      clear hc
      refine evC_skip ?_
      refine then_normal ?_
      refine evC_seq ?_
      refine evC_block ?_
      refine evC_go (dec := []) (ks := [(0, 0), (0, 2), (0, 3), (0, 25)]) (ps := [(0 : Int) ≤ (↑i : Int), (↑i : Int) < (↑n : Int), (2 : Nat) = (2 : Nat), List.all [!!inb (Prod.fst (List.getD l i ((0 : Int), (0 : Int))))] id = true → (0 : Int) ≤ (↑i : Int), List.all [!!inb (Prod.fst (List.getD l i ((0 : Int), (0 : Int))))] id = true → (↑i : Int) < (↑n : Int), List.all [!!inb (Prod.fst (List.getD l i ((0 : Int), (0 : Int))))] id = true → (2 : Nat) = (2 : Nat)]) (s' := ⟨[(0, 0, Cont.cell (AV.rs 2 n false (spF l))), (0, 2, Cont.cell (AV.bool false)), (0, 3, Cont.cell (AV.int IntKind.i64 (↑i : Int))), (0, 25, Cont.cell (AV.bool (bif !inb (Prod.fst (List.getD l i (0, 0))) then true else !inb (Prod.snd (List.getD l i (0, 0))))))], 641, 29⟩) (by kernel_rfl) (by kernel_rfl) ?_ ?_
      · (simp only [All]; (repeat' apply And.intro) <;> (try intro _) <;> (try intro _) <;> (repeat' apply And.intro) <;> (try intro _) <;> (try intro _) <;> first | trivial | assumption | exact .inr trivial | exact .inr rfl | omega | rfl | exact ⟨_, rfl, rfl⟩ | exact ⟨rfl, rfl⟩ | exact ⟨fun _ => rfl, fun _ => rfl⟩ | (unfold maxLen; omega) | (unfold i64R; first | omega | decide) | decide)
      rw [cond_or]
      refine evC_if (q := !inb (Prod.fst (List.getD l i (0, 0))) || !inb (Prod.snd (List.getD l i (0, 0)))) (by kernel_rfl) (fun hc => ?_) (fun hc => ?_)
      · have hb : (inb (l.getD i (0, 0)).1 && inb (l.getD i (0, 0)).2) = false := by
          revert hc
          cases inb (l.getD i (0, 0)).1 <;> cases inb (l.getD i (0, 0)).2 <;> simp
        refine evC_go0 (dec := []) (ks := [(0, 0), (0, 2), (0, 3)]) (s' := ⟨[(0, 0, Cont.cell (AV.rs 2 n false (spF l))), (0, 2, Cont.cell (AV.bool false)), (0, 3, Cont.cell (AV.int IntKind.i64 (↑i : Int)))], 673, 29⟩) (by kernel_rfl) (by kernel_rfl) ?_
        refine evC_ret ?_
        refine block_ret ?_
        refine then_ret ?_
        refine round_ret ?_
        refine block_ret ?_
        refine then_ret ?_
        refine post_ret ?_
        refine ends_flat (vs := [AV.bool false]) (Nat.zero_lt_succ _) (by kernel_rfl) (flat_of _ (by kernel_rfl)) rfl ?_
        have : mayB l = false := by rw [hm, all_false (i := i) (by omega) hb]; rfl
        rw [this]; rfl
      · have hb : (inb (l.getD i (0, 0)).1 && inb (l.getD i (0, 0)).2) = true := by
          revert hc
          cases inb (l.getD i (0, 0)).1 <;> cases inb (l.getD i (0, 0)).2 <;> simp
        refine evC_skip ?_
        refine block_normal ?_
        refine then_normal ?_
        refine evC_goL0 (dec := []) (ks := [(0, 0), (0, 2), (0, 3)]) (s' := ⟨[(0, 0, Cont.cell (AV.rs 2 n false (spF l))), (0, 2, Cont.cell (AV.bool false)), (0, 3, Cont.cell (AV.int IntKind.i64 (IntKind.i64.wrap ((↑i : Int) + 1))))], 737, 29⟩) (by kernel_rfl) (by kernel_rfl) ?_
        rw [wrap_add_one (by omega : i < n) (by omega)]
        refine round_normal (⟨i + 1, by omega, fun j hj' => ?_⟩) (wk_go [] rfl (by decide) rfl rfl ⟨⟨_, rfl, rfl⟩, ⟨_, rfl, rfl⟩, ⟨_, rfl, rfl⟩, trivial⟩) ?_
        · rcases Nat.lt_or_ge j i with h | h
          · exact hj j h
          · have : j = i := by omega
            subst this; exact hb
        · show n - (i + 1) < n - i; omega
    · have hlt : ¬ (i : Int) < (n : Int) := of_decide_eq_false hc
      refine evC_exit ?_
      refine then_exit ?_
      refine round_exit ?_
      refine block_exit ?_
      refine then_normal ?_
      refine evC_go0 (dec := []) (ks := [(0, 2)]) (s' := ⟨[(0, 2, Cont.cell (AV.bool (decide ((↑n : Int) ≤ 256))))], 257, 29⟩) (by kernel_rfl) (by kernel_rfl) ?_
      refine evC_ret ?_
      refine post_ret ?_
      refine ends_flat (vs := [AV.bool (decide ((↑n : Int) ≤ 256))]) (Nat.zero_lt_succ _) (by kernel_rfl) (flat_of _ (by kernel_rfl)) rfl ?_
      have : mayB l = decide (n ≤ 256) := by rw [hm, all_true fun j hj' => hj j (by omega)]; simp
      rw [this]
      show AV.bool _ = AV.bool _
      congr 1
      rw [Bool.eq_iff_iff]
      simp only [decide_eq_true_eq]
      omega
  · cases e
end Go.Eng.S12
