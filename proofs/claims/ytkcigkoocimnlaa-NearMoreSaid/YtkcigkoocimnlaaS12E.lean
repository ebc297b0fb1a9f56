/- Seat 12: the document's Within and Nearest, the program's Nearest, walked. -/
import Derived.Test.YtkcigkoocimnlaaEngX
import Derived.Test.YtkcigkoocimnlaaS12D
set_option linter.unusedSimpArgs false
set_option linter.unusedVariables false
namespace Go.Eng.S12
open Go.Proofs Go.IntWalk
set_option maxRecDepth 10000

def at' (l : List Sp) (i : Nat) : Sp := l.getD i (0, 0)
/-- Is a spot within a distance? -/
def near (l : List Sp) (x y r : Int) (i : Nat) : Bool := decide (farI (l.getD i (0, 0)) x y ≤ r * r)
/-- Who of the first n is within a distance. -/
def witN (l : List Sp) (x y r : Int) (n : Nat) : List Int := ((List.range n).filter (near l x y r)).map fun (i : Nat) => (i : Int)
def wit (l : List Sp) (x y r : Int) : List Int := witN l x y r l.length
theorem witN_succ (l : List Sp) (x y r : Int) (n : Nat) : witN l x y r (n + 1) = witN l x y r n ++ (bif near l x y r n then [(n : Int)] else []) := by
  unfold witN
  rw [List.range_succ, List.filter_append, List.map_append]
  cases h : near l x y r n <;> simp [h]
theorem witN_len (l : List Sp) (x y r : Int) (n : Nat) : (witN l x y r n).length ≤ n := by
  unfold witN
  rw [List.length_map]
  exact Nat.le_trans (List.length_filter_le _ _) (by simp)
theorem sq_in {r : Int} (h : InB r) : IntKind.i64.wrap (r * r) = r * r := by
  unfold InB at h
  have := sq_rng (d := r) (by omega)
  rw [i64_in (n := r * r) (by omega)]
theorem far_in {l : List Sp} (hl : InL l) {x y : Int} (hx : InB x) (hy : InB y) {i : Nat} (hi : i < l.length) : farW (l.getD i (0, 0)) x y = farI (l.getD i (0, 0)) x y :=
  farW_eq (hl.get hi).1 (hl.get hi).2 hx hy
def sRefWithin : Spec := fun args _ _ => match args with
  | [.rs 2 n false f, .int .i64 x, .int .i64 y, .int .i64 r] => some ⟨[(∀ i, i < n → f i = spF (spL n f) i) ∧ InL (spL n f), InB x ∧ InB y ∧ InB r], is1 (wit (spL n f) x y r), [], []⟩
  | _ => none
theorem refWithin_ok : SpecOK Try.prog 13 sRefWithin := by
  refine spec_own (by kernel_rfl) T_ok (sget_cons refFar_ok sget_nil) Try.func13 rfl rfl fun args hr nb out e => ?_
  unfold sRefWithin at e
  split at e
  · rename_i n f x y r
    injection e with e; subst e
    refine ⟨(fun _ h => nomatch h), true, [.rs 2 n false (spF (spL n f)), .int .i64 x, .int .i64 y, .int .i64 r], rfl, fun hs => ?_⟩
    obtain ⟨h1, hl⟩ := hs _ List.mem_cons_self
    obtain ⟨hx, hy, hr'⟩ := hs _ (List.mem_cons_of_mem _ List.mem_cons_self)
    refine ⟨.cons _ _ _ _ (.rs _ _ _ _ _ _ fun i hi => ⟨h1 i hi, (spF_flat _ i).has⟩) (.cons _ _ _ _ (.same _ _ (.int _ _)) (.cons _ _ _ _ (.same _ _ (.int _ _)) (.cons _ _ _ _ (.same _ _ (.int _ _)) .nil))), ?_⟩
    clear hs
    obtain ⟨l, hll⟩ : ∃ l, l = spL n f := ⟨_, rfl⟩
    have hn : l.length = n := by rw [hll, spL_len]
    rw [← hll] at hl ⊢
    clear hll h1
    subst hn
    have hl256 := hl.1
    refine evC_go0 (dec := []) (ks := [(0, 0), (0, 1), (0, 2), (0, 3), (0, 8)]) (s' := ⟨[(0, 0, Cont.cell (AV.rs 2 (List.length l) false (spF l))), (0, 1, Cont.cell (AV.int IntKind.i64 x)), (0, 2, Cont.cell (AV.int IntKind.i64 y)), (0, 3, Cont.cell (AV.int IntKind.i64 r)), (0, 8, Cont.cell AV.nils)], 33, 33⟩) (by kernel_rfl) (by kernel_rfl) ?_
    refine evC_go0 (dec := []) (ks := [(0, 0), (0, 1), (0, 2), (0, 3), (0, 8), (0, 9)]) (s' := ⟨[(0, 0, Cont.cell (AV.rs 2 (List.length l) false (spF l))), (0, 1, Cont.cell (AV.int IntKind.i64 x)), (0, 2, Cont.cell (AV.int IntKind.i64 y)), (0, 3, Cont.cell (AV.int IntKind.i64 r)), (0, 8, Cont.cell AV.nils), (0, 9, Cont.cell AV.nils)], 65, 33⟩) (by kernel_rfl) (by kernel_rfl) ?_
    refine evC_seq ?_
    refine evC_go0 (dec := []) (ks := [(0, 0), (0, 1), (0, 2), (0, 3), (0, 8), (0, 9), (0, 10)]) (s' := ⟨[(0, 0, Cont.cell (AV.rs 2 (List.length l) false (spF l))), (0, 1, Cont.cell (AV.int IntKind.i64 x)), (0, 2, Cont.cell (AV.int IntKind.i64 y)), (0, 3, Cont.cell (AV.int IntKind.i64 r)), (0, 8, Cont.cell AV.nils), (0, 9, Cont.cell AV.nils), (0, 10, Cont.cell (AV.int IntKind.i64 0))], 97, 33⟩) (by kernel_rfl) (by kernel_rfl) ?_
    refine evC_wk _ (.nil 0 9 1 3 (fun _ => .nils) (Nat.le_of_ble_eq_true rfl) rfl) ?_
    refine evC_block ?_
    refine evC_loop (ι := { i : Nat // i ≤ l.length }) (fun i => ⟨[(0, 0, Cont.cell (AV.rs 2 (List.length l) false (spF l))), (0, 1, Cont.cell (AV.int IntKind.i64 x)), (0, 2, Cont.cell (AV.int IntKind.i64 y)), (0, 3, Cont.cell (AV.int IntKind.i64 r)), (0, 8, Cont.cell AV.nils), (0, 9, Cont.cell (AV.vs 1)), (0, 10, .cell (.int .i64 (i.1 : Nat))), (1, 0, .vec 1 3 (witN l x y r i.1).length (lst (witN l x y r i.1)))], 2, 33⟩) (fun i => l.length - i.1) ⟨0, Nat.zero_le _⟩ (wk_go [97] rfl (by decide) rfl rfl ⟨⟨_, rfl, rfl⟩, ⟨_, rfl, rfl⟩, ⟨_, rfl, rfl⟩, ⟨_, rfl, rfl⟩, ⟨_, rfl, rfl⟩, ⟨_, rfl, rfl⟩, ⟨_, rfl, rfl⟩, ⟨_, rfl, ⟨rfl, rfl, rfl, fun _ hi => absurd hi (Nat.not_lt_zero _)⟩⟩, trivial⟩) ?_
    rintro ⟨i, hi⟩
    refine evC_seq ?_
    refine evC_go0 (dec := []) (ks := [(0, 0), (0, 1), (0, 2), (0, 3), (0, 8), (0, 9), (0, 10), (0, 14), (1, 0)]) (s' := ⟨[(0, 0, Cont.cell (AV.rs 2 (List.length l) false (spF l))), (0, 1, Cont.cell (AV.int IntKind.i64 x)), (0, 2, Cont.cell (AV.int IntKind.i64 y)), (0, 3, Cont.cell (AV.int IntKind.i64 r)), (0, 8, Cont.cell AV.nils), (0, 9, Cont.cell (AV.vs 1)), (0, 10, Cont.cell (AV.int IntKind.i64 (↑i : Int))), (0, 14, Cont.cell (AV.bool (decide ((↑i : Int) < (↑(List.length l) : Int))))), (1, 0, Cont.vec 1 3 (List.length (witN l x y r i)) (lst (witN l x y r i)))], 130, 33⟩) (by kernel_rfl) (by kernel_rfl) ?_
    refine evC_if (q := decide ((↑i : Int) < (↑(List.length l) : Int))) (by kernel_rfl) (fun hc => ?_) (fun hc => ?_)
    · have hlt : i < l.length := by have := of_decide_eq_true hc; omega
      clear hc
      refine evC_skip ?_
      refine then_normal ?_
      refine evC_seq ?_
      refine evC_block ?_
      refine evC_go (dec := []) (ks := [(0, 0), (0, 1), (0, 2), (0, 3), (0, 8), (0, 9), (0, 10), (0, 27), (1, 0)]) (ps := [(0 : Int) ≤ (↑i : Int), (↑i : Int) < (↑(List.length l) : Int), (2 : Nat) = (2 : Nat)]) (s' := ⟨[(0, 0, Cont.cell (AV.rs 2 (List.length l) false (spF l))), (0, 1, Cont.cell (AV.int IntKind.i64 x)), (0, 2, Cont.cell (AV.int IntKind.i64 y)), (0, 3, Cont.cell (AV.int IntKind.i64 r)), (0, 8, Cont.cell AV.nils), (0, 9, Cont.cell (AV.vs 1)), (0, 10, Cont.cell (AV.int IntKind.i64 (↑i : Int))), (0, 27, Cont.cell (AV.bool (decide (farW (Prod.fst (List.getD l i (0, 0)), Prod.snd (List.getD l i (0, 0))) x y ≤ IntKind.i64.wrap (r * r))))), (1, 0, Cont.vec 1 3 (List.length (witN l x y r i)) (lst (witN l x y r i)))], 482, 33⟩) (by kernel_rfl) (by kernel_rfl) ?_ ?_
      · (simp only [All]; (repeat' apply And.intro) <;> (try intro _) <;> (try intro _) <;> (repeat' apply And.intro) <;> (try intro _) <;> (try intro _) <;> first | trivial | assumption | exact .inr trivial | exact .inr rfl | omega | rfl | exact ⟨_, rfl, rfl⟩ | exact ⟨rfl, rfl⟩ | exact ⟨fun _ => rfl, fun _ => rfl⟩ | (unfold maxLen; omega) | (unfold i64R; first | omega | decide) | decide)
      have hb : decide (farW (Prod.fst (List.getD l i (0, 0)), Prod.snd (List.getD l i (0, 0))) x y ≤ IntKind.i64.wrap (r * r)) = near l x y r i := by
        unfold near
        rw [show farW (Prod.fst (List.getD l i (0, 0)), Prod.snd (List.getD l i (0, 0))) x y = farI (l.getD i (0, 0)) x y from far_in hl hx hy hlt, sq_in hr']
      rw [hb]
      have hw := witN_len l x y r i
      refine evC_if (q := near l x y r i) (by kernel_rfl) (fun hc => ?_) (fun hc => ?_)
      · have hs : witN l x y r (i + 1) = witN l x y r i ++ [(i : Int)] := by rw [witN_succ, hc]; rfl
        refine evC_goL (dec := []) (ks := [(0, 0), (0, 1), (0, 2), (0, 3), (0, 8), (0, 9), (0, 10), (578, 0)]) (ps := [(List.length (witN l x y r i) + (1 : Nat)) * (8 : Nat) ≤ (140737488355328 : Nat), List.length (witN l x y r i) + (1 : Nat) ≤ maxLen, (1 : Nat) = (0 : Nat) ∨ (1 : Nat) = (1 : Nat), (1 : Nat) = (1 : Nat), (3 : Nat) = (3 : Nat)]) (s' := ⟨[(0, 0, Cont.cell (AV.rs 2 (List.length l) false (spF l))), (0, 1, Cont.cell (AV.int IntKind.i64 x)), (0, 2, Cont.cell (AV.int IntKind.i64 y)), (0, 3, Cont.cell (AV.int IntKind.i64 r)), (0, 8, Cont.cell AV.nils), (0, 9, Cont.cell (AV.vs 578)), (0, 10, Cont.cell (AV.int IntKind.i64 (↑i : Int))), (578, 0, Cont.vec 1 3 (List.length (witN l x y r i) + 1) (catF (List.length (witN l x y r i)) (lst (witN l x y r i)) (pget [(0, AV.int IntKind.i64 (↑i : Int))])))], 642, 33⟩) (by kernel_rfl) (by kernel_rfl) ?_ ?_
        · (simp only [All]; (repeat' apply And.intro) <;> (try intro _) <;> (try intro _) <;> (repeat' apply And.intro) <;> (try intro _) <;> (try intro _) <;> first | trivial | assumption | exact .inr trivial | exact .inr rfl | omega | rfl | exact ⟨_, rfl, rfl⟩ | exact ⟨rfl, rfl⟩ | exact ⟨fun _ => rfl, fun _ => rfl⟩ | (unfold maxLen; omega) | (unfold i64R; first | omega | decide) | decide)
        refine block_normal ?_
        refine then_normal ?_
        refine evC_goL0 (dec := []) (ks := [(0, 0), (0, 1), (0, 2), (0, 3), (0, 8), (0, 9), (0, 10), (578, 0)]) (s' := ⟨[(0, 0, Cont.cell (AV.rs 2 (List.length l) false (spF l))), (0, 1, Cont.cell (AV.int IntKind.i64 x)), (0, 2, Cont.cell (AV.int IntKind.i64 y)), (0, 3, Cont.cell (AV.int IntKind.i64 r)), (0, 8, Cont.cell AV.nils), (0, 9, Cont.cell (AV.vs 578)), (0, 10, Cont.cell (AV.int IntKind.i64 (IntKind.i64.wrap ((↑i : Int) + 1)))), (578, 0, Cont.vec 1 3 (List.length (witN l x y r i) + 1) (catF (List.length (witN l x y r i)) (lst (witN l x y r i)) (pget [(0, AV.int IntKind.i64 (↑i : Int))])))], 738, 33⟩) (by kernel_rfl) (by kernel_rfl) ?_
        rw [wrap_add_one hlt (by omega)]
        refine round_normal (⟨i + 1, hlt⟩) (wk_go [578] rfl (by decide) rfl rfl ⟨⟨_, rfl, rfl⟩, ⟨_, rfl, rfl⟩, ⟨_, rfl, rfl⟩, ⟨_, rfl, rfl⟩, ⟨_, rfl, rfl⟩, ⟨_, rfl, rfl⟩, ⟨_, rfl, rfl⟩, ⟨_, rfl, ?_⟩, trivial⟩) ?_
        · rw [hs]
          refine ⟨rfl, rfl, by simp, fun j hj => ?_⟩
          rw [List.length_append] at hj
          show catF _ _ _ j = (lst _ j).ren _
          rw [catF_lst rfl j hj]
          rfl
        · show l.length - (i + 1) < l.length - i; omega
      · have hs : witN l x y r (i + 1) = witN l x y r i := by rw [witN_succ, hc]; simp
        refine evC_skip ?_
        refine block_normal ?_
        refine then_normal ?_
        refine evC_goL0 (dec := []) (ks := [(0, 0), (0, 1), (0, 2), (0, 3), (0, 8), (0, 9), (0, 10), (1, 0)]) (s' := ⟨[(0, 0, Cont.cell (AV.rs 2 (List.length l) false (spF l))), (0, 1, Cont.cell (AV.int IntKind.i64 x)), (0, 2, Cont.cell (AV.int IntKind.i64 y)), (0, 3, Cont.cell (AV.int IntKind.i64 r)), (0, 8, Cont.cell AV.nils), (0, 9, Cont.cell (AV.vs 1)), (0, 10, Cont.cell (AV.int IntKind.i64 (IntKind.i64.wrap ((↑i : Int) + 1)))), (1, 0, Cont.vec 1 3 (List.length (witN l x y r i)) (lst (witN l x y r i)))], 578, 33⟩) (by kernel_rfl) (by kernel_rfl) ?_
        rw [wrap_add_one hlt (by omega)]
        refine round_normal (⟨i + 1, hlt⟩) (wk_go [1] rfl (by decide) rfl rfl ⟨⟨_, rfl, rfl⟩, ⟨_, rfl, rfl⟩, ⟨_, rfl, rfl⟩, ⟨_, rfl, rfl⟩, ⟨_, rfl, rfl⟩, ⟨_, rfl, rfl⟩, ⟨_, rfl, rfl⟩, ⟨_, rfl, ?_⟩, trivial⟩) ?_
        · rw [hs]
          exact ⟨rfl, rfl, rfl, fun j hj => rfl⟩
        · show l.length - (i + 1) < l.length - i; omega
    · have hin : i = l.length := by have := of_decide_eq_false hc; omega
      subst hin
      clear hc
      refine evC_exit ?_
      refine then_exit ?_
      refine round_exit ?_
      refine block_exit ?_
      refine then_normal ?_
      refine evC_go0 (dec := []) (ks := [(0, 8), (1, 0)]) (s' := ⟨[(0, 8, Cont.cell (AV.vs 1)), (1, 0, Cont.vec 1 3 (List.length (witN l x y r (List.length l))) (lst (witN l x y r (List.length l))))], 194, 33⟩) (by kernel_rfl) (by kernel_rfl) ?_
      refine evC_wk (s' := ⟨[(0, 8, Cont.cell (AV.rs 1 (List.length (witN l x y r (List.length l))) false (lst (witN l x y r (List.length l)))))], 1, 33⟩) _ (.trans (.frz 1 1 3 (List.length (witN l x y r (List.length l))) (lst (witN l x y r (List.length l))) (Nat.le_of_ble_eq_true rfl) rfl) (wk_go [] rfl (by decide) rfl rfl ⟨⟨_, rfl, rfl⟩, trivial⟩)) ?_
      refine evC_ret ?_
      refine post_ret ?_
      exact ends_rd (Nat.succ_pos _) rfl rfl (is1_has _) (is1_ren _)
  · cases e
/-! ### Who is nearest -/
def nrB (l : List Sp) (x y : Int) (k i : Nat) : Bool := decide (farI (l.getD k (0, 0)) x y < farI (l.getD i (0, 0)) x y)
/-- The first of those that nobody is nearer than. -/
def nst (l : List Sp) (x y : Int) : Nat := fstN (fun i => (List.range l.length).all fun k => !nrB l x y k i) l.length
/-- The best of the first n. -/
def bstN (l : List Sp) (x y : Int) : Nat → Nat
  | 0 => 0
  | n + 1 => bif nrB l x y n (bstN l x y n) then n else bstN l x y n
theorem bstN_lt (l : List Sp) (x y : Int) : ∀ n, bstN l x y n < n ∨ bstN l x y n = 0
  | 0 => .inr rfl
  | n + 1 => by
    have := bstN_lt l x y n
    unfold bstN
    cases nrB l x y n (bstN l x y n) <;> simp <;> omega
theorem bstN_min (l : List Sp) (x y : Int) : ∀ n, (∀ k, k < n → farI (l.getD (bstN l x y n) (0, 0)) x y ≤ farI (l.getD k (0, 0)) x y) ∧ (∀ k, k < bstN l x y n → farI (l.getD (bstN l x y n) (0, 0)) x y < farI (l.getD k (0, 0)) x y)
  | 0 => ⟨fun k h => absurd h (Nat.not_lt_zero _), fun k h => absurd h (Nat.not_lt_zero _)⟩
  | n + 1 => by
    obtain ⟨h1, h2⟩ := bstN_min l x y n
    have h3 := bstN_lt l x y n
    unfold bstN
    cases h : nrB l x y n (bstN l x y n) with
    | true =>
      have h := of_decide_eq_true h
      refine ⟨fun k hk => ?_, fun k hk => ?_⟩
      · show farI (l.getD n (0, 0)) x y ≤ _
        rcases Nat.lt_or_ge k n with hlt | hge
        · have := h1 k hlt; omega
        · have : k = n := by omega
          subst this; exact Int.le_refl _
      · show farI (l.getD n (0, 0)) x y < _
        have hk : k < n := hk
        have := h1 k hk; omega
    | false =>
      have h := of_decide_eq_false h
      refine ⟨fun k hk => ?_, fun k hk => h2 k hk⟩
      show farI (l.getD (bstN l x y n) (0, 0)) x y ≤ _
      rcases Nat.lt_or_ge k n with hlt | hge
      · exact h1 k hlt
      · have : k = n := by omega
        subst this; omega
theorem bst_nst (l : List Sp) (x y : Int) (h0 : 0 < l.length) : bstN l x y l.length = nst l x y := by
  obtain ⟨h1, h2⟩ := bstN_min l x y l.length
  have h3 : bstN l x y l.length < l.length := by rcases bstN_lt l x y l.length with h | h <;> omega
  refine (fst_at h3 (all_true fun k hk => ?_) fun j hj => ?_).symm
  · have := h1 k hk
    unfold nrB
    rw [decide_eq_false (by omega)]; rfl
  · refine all_false h3 ?_
    have := h2 j hj
    unfold nrB
    rw [decide_eq_true (by omega)]; rfl
def nstE (l : List Sp) (x y : Int) : Int := bif inb x && inb y then (bif l.length == 0 then 6 else 0) else 1
def nstV (l : List Sp) (x y : Int) : Int := bif inb x && inb y then (bif l.length == 0 then 0 else (nst l x y : Int)) else 0
def sNearest : Spec := fun args hr _ => match args with
  | [v, .int .i64 x, .int .i64 y] => withIdx hr v fun n b l s rd => some ⟨[s], .tup [.int .i64 (nstV l x y), .int .i64 (nstE l x y)], rd, []⟩
  | _ => none
theorem pg1 (x : Int) : (∀ i, i < 1 → pget [(0, AV.int .i64 x)] i = c1 (pget [(0, AV.int .i64 x)]) i) ∧ 1 ≤ 3 := ⟨fun i hi => by
  match i, hi with
  | 0, _ => rfl, by decide⟩
theorem pg2 (x y : Int) : (∀ i, i < 2 → pget [(0, AV.int .i64 x), (1, AV.int .i64 y)] i = c1 (pget [(0, AV.int .i64 x), (1, AV.int .i64 y)]) i) ∧ 2 ≤ 3 := ⟨fun i hi => by
  match i, hi with
  | 0, _ => rfl
  | 1, _ => rfl, by decide⟩
theorem pg3 (x y z : Int) : (∀ i, i < 3 → pget [(0, AV.int .i64 x), (1, AV.int .i64 y), (2, AV.int .i64 z)] i = c1 (pget [(0, AV.int .i64 x), (1, AV.int .i64 y), (2, AV.int .i64 z)]) i) ∧ 3 ≤ 3 := ⟨fun i hi => by
  match i, hi with
  | 0, _ => rfl
  | 1, _ => rfl
  | 2, _ => rfl, by decide⟩
theorem nearest_ok : SpecOK Try.prog 14 sNearest := by
  refine spec_at (by kernel_rfl) T_ok (sget_cons may_ok (sget_cons far_ok sget_nil)) Try.func14 rfl rfl fun args hr nb out e => ?_
  unfold sNearest at e
  split at e
  · rename_i v x y
    obtain ⟨n, b, l, s, rd, rfl, e, hrd, hs0, hs1⟩ := idx_open e
    injection e with e; subst e
    refine ⟨hrd, true, [n, b], [.ptr 1 0, .int .i64 x, .int .i64 y], icon 1 2 l, rfl, fun hs => ?_⟩
    obtain ⟨hl, k1, k2, k3⟩ := hs0 (hs _ List.mem_cons_self)
    have k4 := hs1 (hs _ List.mem_cons_self) [] nb
    refine ⟨k1, fun z hz => ⟨(k2 z hz).1, (k2 z hz).2 _ fun x hx => hx⟩, .cons _ _ _ _ (.name _ _ _ rfl) (.cons _ _ _ _ (.same _ _ (.int _ _)) (.cons _ _ _ _ (.same _ _ (.int _ _)) .nil)), k3 _ _, ?_⟩
    clear hs hs0 hs1 k1 k2 k3 hrd
    have hl256 := hl.1
    have hix : InL l := hl
    unfold icon sps
    refine evC_go0 (dec := []) (ks := [(0, 0), (0, 1), (0, 2), (0, 6), (0, 7), (1, 0), (1, 1), (1, 2), (2, 0)]) (s' := ⟨[(0, 0, Cont.cell (AV.ptr 1 0)), (0, 1, Cont.cell (AV.int IntKind.i64 x)), (0, 2, Cont.cell (AV.int IntKind.i64 y)), (0, 6, Cont.cell (AV.int IntKind.i64 0)), (0, 7, Cont.cell (AV.int IntKind.i64 0)), (1, 0, Cont.cell (AV.rs 2 (List.length l) false (spF l))), (1, 1, Cont.cell (AV.mp 2)), (1, 2, Cont.top), (2, 0, Cont.map 2 (qmap (sqN l (List.length l))))], 67, 43⟩) (by kernel_rfl) (by kernel_rfl) ?_
    refine evC_seq ?_
    refine evC_go (dec := []) (ks := [(0, 0), (0, 1), (0, 2), (0, 6), (0, 7), (0, 14), (1, 0), (1, 1), (1, 2), (2, 0)]) (ps := [(∀ (i : Nat), i < (2 : Nat) → pget [((0 : Nat), AV.int IntKind.i64 x), ((1 : Nat), AV.int IntKind.i64 y)] i = c1 (pget [((0 : Nat), AV.int IntKind.i64 x), ((1 : Nat), AV.int IntKind.i64 y)]) i) ∧ (2 : Nat) ≤ (3 : Nat)]) (s' := ⟨[(0, 0, Cont.cell (AV.ptr 1 0)), (0, 1, Cont.cell (AV.int IntKind.i64 x)), (0, 2, Cont.cell (AV.int IntKind.i64 y)), (0, 6, Cont.cell (AV.int IntKind.i64 0)), (0, 7, Cont.cell (AV.int IntKind.i64 0)), (0, 14, Cont.cell (AV.bool !allIn 2 (pget [(0, AV.int IntKind.i64 x), (1, AV.int IntKind.i64 y)]))), (1, 0, Cont.cell (AV.rs 2 (List.length l) false (spF l))), (1, 1, Cont.cell (AV.mp 2)), (1, 2, Cont.top), (2, 0, Cont.map 2 (qmap (sqN l (List.length l))))], 227, 43⟩) (by kernel_rfl) (by kernel_rfl) ?_ ?_
    · exact pg2 x y
    rw [allIn2]
    refine evC_if (q := !(inb x && inb y)) (by kernel_rfl) (fun hc => ?_) (fun hc => ?_)
    · have hq : (inb x && inb y) = false := by
        revert hc
        cases inb x <;> cases inb y <;> simp
      have hv : nstV l x y = 0 ∧ nstE l x y = 1 := by unfold nstV nstE; rw [hq]; exact ⟨rfl, rfl⟩
      refine evC_go0 (dec := []) (ks := [(0, 0), (0, 1), (0, 2), (0, 6), (0, 7), (1, 0), (1, 1), (1, 2), (2, 0)]) (s' := ⟨[(0, 0, Cont.cell (AV.ptr 1 0)), (0, 1, Cont.cell (AV.int IntKind.i64 x)), (0, 2, Cont.cell (AV.int IntKind.i64 y)), (0, 6, Cont.cell (AV.int IntKind.i64 0)), (0, 7, Cont.cell (AV.int IntKind.i64 1)), (1, 0, Cont.cell (AV.rs 2 (List.length l) false (spF l))), (1, 1, Cont.cell (AV.mp 2)), (1, 2, Cont.top), (2, 0, Cont.map 2 (qmap (sqN l (List.length l))))], 291, 43⟩) (by kernel_rfl) (by kernel_rfl) ?_
      refine evC_ret ?_
      refine then_ret ?_
      refine post_ret ?_
      rw [hv.1, hv.2]
      refine ends_go [] (AV.tup [AV.int IntKind.i64 0, AV.int IntKind.i64 1]) [(1, 0, Cont.cell (AV.rs 2 (List.length l) false (spF l))), (1, 1, Cont.cell (AV.mp 2)), (1, 2, Cont.top), (2, 0, Cont.map 2 (qmap (sqN l (List.length l))))] rfl (by decide) rfl rfl (has_of _ rfl) rfl ⟨⟨_, rfl, rfl⟩, ⟨_, rfl, rfl⟩, ⟨_, rfl, trivial⟩, ⟨_, rfl, Go.Eng.S12.cw_qmap _⟩, trivial⟩ trivial ?_
      exact k4 _ _ (by simp [icon, hget, sps])
    · have hq : (inb x && inb y) = true := by simpa using hc
      have hxy : InB x ∧ InB y := by simpa [inb_iff] using hq
      clear hc
      refine evC_skip ?_
      refine then_normal ?_
      refine evC_seq ?_
      refine evC_go0 (dec := []) (ks := [(0, 0), (0, 1), (0, 2), (0, 6), (0, 7), (0, 20), (1, 0), (1, 1), (1, 2), (2, 0)]) (s' := ⟨[(0, 0, Cont.cell (AV.ptr 1 0)), (0, 1, Cont.cell (AV.int IntKind.i64 x)), (0, 2, Cont.cell (AV.int IntKind.i64 y)), (0, 6, Cont.cell (AV.int IntKind.i64 0)), (0, 7, Cont.cell (AV.int IntKind.i64 0)), (0, 20, Cont.cell (AV.bool ((↑(List.length l) : Int) == 0))), (1, 0, Cont.cell (AV.rs 2 (List.length l) false (spF l))), (1, 1, Cont.cell (AV.mp 2)), (1, 2, Cont.top), (2, 0, Cont.map 2 (qmap (sqN l (List.length l))))], 419, 43⟩) (by kernel_rfl) (by kernel_rfl) ?_
      refine evC_if (q := (↑(List.length l) : Int) == 0) (by kernel_rfl) (fun hc => ?_) (fun hc => ?_)
      · have h0 : l.length = 0 := by simpa using hc
        have hv : nstV l x y = 0 ∧ nstE l x y = 6 := by unfold nstV nstE; rw [hq, h0]; exact ⟨rfl, rfl⟩
        refine evC_go0 (dec := []) (ks := [(0, 0), (0, 1), (0, 2), (0, 6), (0, 7), (1, 0), (1, 1), (1, 2), (2, 0)]) (s' := ⟨[(0, 0, Cont.cell (AV.ptr 1 0)), (0, 1, Cont.cell (AV.int IntKind.i64 x)), (0, 2, Cont.cell (AV.int IntKind.i64 y)), (0, 6, Cont.cell (AV.int IntKind.i64 0)), (0, 7, Cont.cell (AV.int IntKind.i64 6)), (1, 0, Cont.cell (AV.rs 2 (List.length l) false (spF l))), (1, 1, Cont.cell (AV.mp 2)), (1, 2, Cont.top), (2, 0, Cont.map 2 (qmap (sqN l (List.length l))))], 483, 43⟩) (by kernel_rfl) (by kernel_rfl) ?_
        refine evC_ret ?_
        refine then_ret ?_
        refine post_ret ?_
        rw [hv.1, hv.2]
        refine ends_go [] (AV.tup [AV.int IntKind.i64 0, AV.int IntKind.i64 6]) [(1, 0, Cont.cell (AV.rs 2 (List.length l) false (spF l))), (1, 1, Cont.cell (AV.mp 2)), (1, 2, Cont.top), (2, 0, Cont.map 2 (qmap (sqN l (List.length l))))] rfl (by decide) rfl rfl (has_of _ rfl) rfl ⟨⟨_, rfl, rfl⟩, ⟨_, rfl, rfl⟩, ⟨_, rfl, trivial⟩, ⟨_, rfl, Go.Eng.S12.cw_qmap _⟩, trivial⟩ trivial ?_
        exact k4 _ _ (by simp [icon, hget, sps])
      · have h0 : 0 < l.length := by
          rcases Nat.eq_zero_or_pos l.length with h | h
          · rw [h] at hc; simp at hc
          · exact h
        clear hc
        have hv : nstV l x y = (bstN l x y l.length : Nat) ∧ nstE l x y = 0 := by
          have : (l.length == 0) = false := by
            have : l.length ≠ 0 := by omega
            simpa using this
          unfold nstV nstE; rw [hq, this, bst_nst l x y h0]; exact ⟨rfl, rfl⟩
        refine evC_skip ?_
        refine then_normal ?_
        refine evC_go0 (dec := []) (ks := [(0, 0), (0, 1), (0, 2), (0, 6), (0, 7), (0, 8), (1, 0), (1, 1), (1, 2), (2, 0)]) (s' := ⟨[(0, 0, Cont.cell (AV.ptr 1 0)), (0, 1, Cont.cell (AV.int IntKind.i64 x)), (0, 2, Cont.cell (AV.int IntKind.i64 y)), (0, 6, Cont.cell (AV.int IntKind.i64 0)), (0, 7, Cont.cell (AV.int IntKind.i64 0)), (0, 8, Cont.cell (AV.int IntKind.i64 0)), (1, 0, Cont.cell (AV.rs 2 (List.length l) false (spF l))), (1, 1, Cont.cell (AV.mp 2)), (1, 2, Cont.top), (2, 0, Cont.map 2 (qmap (sqN l (List.length l))))], 451, 43⟩) (by kernel_rfl) (by kernel_rfl) ?_
        refine evC_seq ?_
        refine evC_go0 (dec := []) (ks := [(0, 0), (0, 1), (0, 2), (0, 6), (0, 7), (0, 8), (0, 25), (0, 26), (1, 0), (1, 1), (1, 2), (2, 0)]) (s' := ⟨[(0, 0, Cont.cell (AV.ptr 1 0)), (0, 1, Cont.cell (AV.int IntKind.i64 x)), (0, 2, Cont.cell (AV.int IntKind.i64 y)), (0, 6, Cont.cell (AV.int IntKind.i64 0)), (0, 7, Cont.cell (AV.int IntKind.i64 0)), (0, 8, Cont.cell (AV.int IntKind.i64 0)), (0, 25, Cont.cell (AV.int IntKind.i64 (↑(List.length l) : Int))), (0, 26, Cont.cell (AV.int IntKind.i64 0)), (1, 0, Cont.cell (AV.rs 2 (List.length l) false (spF l))), (1, 1, Cont.cell (AV.mp 2)), (1, 2, Cont.top), (2, 0, Cont.map 2 (qmap (sqN l (List.length l))))], 643, 43⟩) (by kernel_rfl) (by kernel_rfl) ?_
        refine evC_block ?_
        refine evC_loop (ι := { i : Nat // i ≤ l.length }) (fun i => ⟨[(0, 0, Cont.cell (AV.ptr 1 0)), (0, 1, Cont.cell (AV.int IntKind.i64 x)), (0, 2, Cont.cell (AV.int IntKind.i64 y)), (0, 6, Cont.cell (AV.int IntKind.i64 0)), (0, 7, Cont.cell (AV.int IntKind.i64 0)), (0, 8, .cell (.int .i64 (bstN l x y i.1 : Nat))), (0, 25, Cont.cell (AV.int IntKind.i64 (↑(List.length l) : Int))), (0, 26, .cell (.int .i64 (i.1 : Nat))), (1, 0, Cont.cell (AV.rs 2 (List.length l) false (spF l))), (1, 1, Cont.cell (AV.mp 2)), (1, 2, Cont.top), (2, 0, Cont.map 2 (qmap (sqN l (List.length l))))], 3, 43⟩) (fun i => l.length - i.1) ⟨0, Nat.zero_le _⟩ (wk_go [] rfl (by decide) rfl rfl ⟨⟨_, rfl, rfl⟩, ⟨_, rfl, rfl⟩, ⟨_, rfl, rfl⟩, ⟨_, rfl, rfl⟩, ⟨_, rfl, rfl⟩, ⟨_, rfl, rfl⟩, ⟨_, rfl, rfl⟩, ⟨_, rfl, rfl⟩, ⟨_, rfl, rfl⟩, ⟨_, rfl, rfl⟩, ⟨_, rfl, trivial⟩, ⟨_, rfl, Go.Eng.S12.cw_qmap _⟩, trivial⟩) ?_
        rintro ⟨i, hi⟩
        have hbl := bstN_lt l x y i
        refine evC_go0 (dec := []) (ks := [(0, 0), (0, 1), (0, 2), (0, 6), (0, 7), (0, 8), (0, 25), (0, 26), (0, 27), (1, 0), (1, 1), (1, 2), (2, 0)]) (s' := ⟨[(0, 0, Cont.cell (AV.ptr 1 0)), (0, 1, Cont.cell (AV.int IntKind.i64 x)), (0, 2, Cont.cell (AV.int IntKind.i64 y)), (0, 6, Cont.cell (AV.int IntKind.i64 0)), (0, 7, Cont.cell (AV.int IntKind.i64 0)), (0, 8, Cont.cell (AV.int IntKind.i64 (↑(bstN l x y i) : Int))), (0, 25, Cont.cell (AV.int IntKind.i64 (↑(List.length l) : Int))), (0, 26, Cont.cell (AV.int IntKind.i64 (↑i : Int))), (0, 27, Cont.cell (AV.bool (decide ((↑i : Int) < (↑(List.length l) : Int))))), (1, 0, Cont.cell (AV.rs 2 (List.length l) false (spF l))), (1, 1, Cont.cell (AV.mp 2)), (1, 2, Cont.top), (2, 0, Cont.map 2 (qmap (sqN l (List.length l))))], 35, 43⟩) (by kernel_rfl) (by kernel_rfl) ?_
        refine evC_seq ?_
        refine evC_if (q := decide ((↑i : Int) < (↑(List.length l) : Int))) (by kernel_rfl) (fun hc => ?_) (fun hc => ?_)
        · have hlt : i < l.length := by have := of_decide_eq_true hc; omega
          clear hc
          have hbl2 : bstN l x y i < l.length := by omega
          refine evC_skip ?_
          refine then_normal ?_
          refine evC_seq ?_
          refine evC_block ?_
          refine evC_go0 (dec := []) (ks := [(0, 0), (0, 1), (0, 2), (0, 6), (0, 7), (0, 8), (0, 9), (0, 25), (0, 26), (1, 0), (1, 1), (1, 2), (2, 0)]) (s' := ⟨[(0, 0, Cont.cell (AV.ptr 1 0)), (0, 1, Cont.cell (AV.int IntKind.i64 x)), (0, 2, Cont.cell (AV.int IntKind.i64 y)), (0, 6, Cont.cell (AV.int IntKind.i64 0)), (0, 7, Cont.cell (AV.int IntKind.i64 0)), (0, 8, Cont.cell (AV.int IntKind.i64 (↑(bstN l x y i) : Int))), (0, 9, Cont.cell (AV.int IntKind.i64 (↑i : Int))), (0, 25, Cont.cell (AV.int IntKind.i64 (↑(List.length l) : Int))), (0, 26, Cont.cell (AV.int IntKind.i64 (↑i : Int))), (1, 0, Cont.cell (AV.rs 2 (List.length l) false (spF l))), (1, 1, Cont.cell (AV.mp 2)), (1, 2, Cont.top), (2, 0, Cont.map 2 (qmap (sqN l (List.length l))))], 99, 43⟩) (by kernel_rfl) (by kernel_rfl) ?_
          refine evC_go (dec := []) (ks := [(0, 0), (0, 1), (0, 2), (0, 6), (0, 7), (0, 8), (0, 9), (0, 25), (0, 26), (0, 39), (1, 0), (1, 1), (1, 2), (2, 0)]) (ps := [((0 : Nat) < (1 : Nat) ∧ (0 : Nat) < (2 : Nat) ∧ (1 : Nat) ≠ (2 : Nat)) ∧ spF l = spF (spL (List.length l) (spF l)) ∧ IdxC (spL (List.length l) (spF l)) (Cont.map (2 : Nat) (qmap (sqN l (List.length l)))) ∧ InL (spL (List.length l) (spF l)), (0 : Int) ≤ (↑i : Int) ∧ (↑i : Int) < (↑(List.length (spL (List.length l) (spF l))) : Int), ((0 : Nat) < (1 : Nat) ∧ (0 : Nat) < (2 : Nat) ∧ (1 : Nat) ≠ (2 : Nat)) ∧ spF l = spF (spL (List.length l) (spF l)) ∧ IdxC (spL (List.length l) (spF l)) (Cont.map (2 : Nat) (qmap (sqN l (List.length l)))) ∧ InL (spL (List.length l) (spF l)), (0 : Int) ≤ (↑(bstN l x y i) : Int) ∧ (↑(bstN l x y i) : Int) < (↑(List.length (spL (List.length l) (spF l))) : Int)]) (s' := ⟨[(0, 0, Cont.cell (AV.ptr 1 0)), (0, 1, Cont.cell (AV.int IntKind.i64 x)), (0, 2, Cont.cell (AV.int IntKind.i64 y)), (0, 6, Cont.cell (AV.int IntKind.i64 0)), (0, 7, Cont.cell (AV.int IntKind.i64 0)), (0, 8, Cont.cell (AV.int IntKind.i64 (↑(bstN l x y i) : Int))), (0, 9, Cont.cell (AV.int IntKind.i64 (↑i : Int))), (0, 25, Cont.cell (AV.int IntKind.i64 (↑(List.length l) : Int))), (0, 26, Cont.cell (AV.int IntKind.i64 (↑i : Int))), (0, 39, Cont.cell (AV.bool (decide (farW (List.getD (spL (List.length l) (spF l)) i (0, 0)) x y < farW (List.getD (spL (List.length l) (spF l)) (bstN l x y i) (0, 0)) x y)))), (1, 0, Cont.cell (AV.rs 2 (List.length l) false (spF l))), (1, 1, Cont.cell (AV.mp 2)), (1, 2, Cont.top), (2, 0, Cont.map 2 (qmap (sqN l (List.length l))))], 451, 43⟩) (by kernel_rfl) (by kernel_rfl) ?_ ?_
          · rw [idx_eta]
            exact ⟨⟨⟨by decide, by decide, by decide⟩, rfl, .inl rfl, hl⟩, ⟨by omega, by omega⟩, ⟨⟨by decide, by decide, by decide⟩, rfl, .inl rfl, hl⟩, by omega, by omega⟩
          rw [idx_eta]
          have hb : decide (farW (List.getD l i (0, 0)) x y < farW (List.getD l (bstN l x y i) (0, 0)) x y) = nrB l x y i (bstN l x y i) := by
            rw [far_in hl hxy.1 hxy.2 hlt, far_in hl hxy.1 hxy.2 hbl2]; rfl
          rw [hb]
          refine evC_if (q := nrB l x y i (bstN l x y i)) (by kernel_rfl) (fun hc => ?_) (fun hc => ?_)
          · have hs : bstN l x y (i + 1) = i := by unfold bstN; rw [hc]; rfl
            refine evC_goL0 (dec := []) (ks := [(0, 0), (0, 1), (0, 2), (0, 6), (0, 7), (0, 8), (0, 25), (0, 26), (1, 0), (1, 1), (1, 2), (2, 0)]) (s' := ⟨[(0, 0, Cont.cell (AV.ptr 1 0)), (0, 1, Cont.cell (AV.int IntKind.i64 x)), (0, 2, Cont.cell (AV.int IntKind.i64 y)), (0, 6, Cont.cell (AV.int IntKind.i64 0)), (0, 7, Cont.cell (AV.int IntKind.i64 0)), (0, 8, Cont.cell (AV.int IntKind.i64 (↑i : Int))), (0, 25, Cont.cell (AV.int IntKind.i64 (↑(List.length l) : Int))), (0, 26, Cont.cell (AV.int IntKind.i64 (↑i : Int))), (1, 0, Cont.cell (AV.rs 2 (List.length l) false (spF l))), (1, 1, Cont.cell (AV.mp 2)), (1, 2, Cont.top), (2, 0, Cont.map 2 (qmap (sqN l (List.length l))))], 515, 43⟩) (by kernel_rfl) (by kernel_rfl) ?_
            refine block_normal ?_
            refine then_normal ?_
            refine evC_goL0 (dec := []) (ks := [(0, 0), (0, 1), (0, 2), (0, 6), (0, 7), (0, 8), (0, 25), (0, 26), (1, 0), (1, 1), (1, 2), (2, 0)]) (s' := ⟨[(0, 0, Cont.cell (AV.ptr 1 0)), (0, 1, Cont.cell (AV.int IntKind.i64 x)), (0, 2, Cont.cell (AV.int IntKind.i64 y)), (0, 6, Cont.cell (AV.int IntKind.i64 0)), (0, 7, Cont.cell (AV.int IntKind.i64 0)), (0, 8, Cont.cell (AV.int IntKind.i64 (↑i : Int))), (0, 25, Cont.cell (AV.int IntKind.i64 (↑(List.length l) : Int))), (0, 26, Cont.cell (AV.int IntKind.i64 (IntKind.i64.wrap ((↑i : Int) + 1)))), (1, 0, Cont.cell (AV.rs 2 (List.length l) false (spF l))), (1, 1, Cont.cell (AV.mp 2)), (1, 2, Cont.top), (2, 0, Cont.map 2 (qmap (sqN l (List.length l))))], 579, 43⟩) (by kernel_rfl) (by kernel_rfl) ?_
            rw [wrap_add_one hlt (by omega)]
            refine round_normal (⟨i + 1, hlt⟩) (wk_go [] rfl (by decide) rfl rfl ⟨⟨_, rfl, rfl⟩, ⟨_, rfl, rfl⟩, ⟨_, rfl, rfl⟩, ⟨_, rfl, rfl⟩, ⟨_, rfl, rfl⟩, ⟨_, rfl, ?_⟩, ⟨_, rfl, rfl⟩, ⟨_, rfl, rfl⟩, ⟨_, rfl, rfl⟩, ⟨_, rfl, rfl⟩, ⟨_, rfl, trivial⟩, ⟨_, rfl, Go.Eng.S12.cw_qmap _⟩, trivial⟩) ?_
            · rw [hs]; rfl
            · show l.length - (i + 1) < l.length - i; omega
          · have hs : bstN l x y (i + 1) = bstN l x y i := by
              show (bif nrB l x y i (bstN l x y i) then i else bstN l x y i) = _
              rw [hc]; rfl
            refine evC_skip ?_
            refine block_normal ?_
            refine then_normal ?_
            refine evC_goL0 (dec := []) (ks := [(0, 0), (0, 1), (0, 2), (0, 6), (0, 7), (0, 8), (0, 25), (0, 26), (1, 0), (1, 1), (1, 2), (2, 0)]) (s' := ⟨[(0, 0, Cont.cell (AV.ptr 1 0)), (0, 1, Cont.cell (AV.int IntKind.i64 x)), (0, 2, Cont.cell (AV.int IntKind.i64 y)), (0, 6, Cont.cell (AV.int IntKind.i64 0)), (0, 7, Cont.cell (AV.int IntKind.i64 0)), (0, 8, Cont.cell (AV.int IntKind.i64 (↑(bstN l x y i) : Int))), (0, 25, Cont.cell (AV.int IntKind.i64 (↑(List.length l) : Int))), (0, 26, Cont.cell (AV.int IntKind.i64 (IntKind.i64.wrap ((↑i : Int) + 1)))), (1, 0, Cont.cell (AV.rs 2 (List.length l) false (spF l))), (1, 1, Cont.cell (AV.mp 2)), (1, 2, Cont.top), (2, 0, Cont.map 2 (qmap (sqN l (List.length l))))], 515, 43⟩) (by kernel_rfl) (by kernel_rfl) ?_
            rw [wrap_add_one hlt (by omega)]
            refine round_normal (⟨i + 1, hlt⟩) (wk_go [] rfl (by decide) rfl rfl ⟨⟨_, rfl, rfl⟩, ⟨_, rfl, rfl⟩, ⟨_, rfl, rfl⟩, ⟨_, rfl, rfl⟩, ⟨_, rfl, rfl⟩, ⟨_, rfl, ?_⟩, ⟨_, rfl, rfl⟩, ⟨_, rfl, rfl⟩, ⟨_, rfl, rfl⟩, ⟨_, rfl, rfl⟩, ⟨_, rfl, trivial⟩, ⟨_, rfl, Go.Eng.S12.cw_qmap _⟩, trivial⟩) ?_
            · rw [hs]; rfl
            · show l.length - (i + 1) < l.length - i; omega
        · have hin : i = l.length := by have := of_decide_eq_false hc; omega
          subst hin
          clear hc
          refine evC_exit ?_
          refine then_exit ?_
          refine round_exit ?_
          refine block_exit ?_
          refine then_normal ?_
          refine evC_go0 (dec := []) (ks := [(0, 6), (0, 7), (1, 0), (1, 1), (1, 2), (2, 0)]) (s' := ⟨[(0, 6, Cont.cell (AV.int IntKind.i64 (↑(bstN l x y (List.length l)) : Int))), (0, 7, Cont.cell (AV.int IntKind.i64 0)), (1, 0, Cont.cell (AV.rs 2 (List.length l) false (spF l))), (1, 1, Cont.cell (AV.mp 2)), (1, 2, Cont.top), (2, 0, Cont.map 2 (qmap (sqN l (List.length l))))], 131, 43⟩) (by kernel_rfl) (by kernel_rfl) ?_
          refine evC_ret ?_
          refine post_ret ?_
          rw [hv.1, hv.2]
          refine ends_go [] (AV.tup [AV.int IntKind.i64 (↑(bstN l x y (List.length l)) : Int), AV.int IntKind.i64 0]) [(1, 0, Cont.cell (AV.rs 2 (List.length l) false (spF l))), (1, 1, Cont.cell (AV.mp 2)), (1, 2, Cont.top), (2, 0, Cont.map 2 (qmap (sqN l (List.length l))))] rfl (by decide) rfl rfl (has_of _ rfl) rfl ⟨⟨_, rfl, rfl⟩, ⟨_, rfl, rfl⟩, ⟨_, rfl, trivial⟩, ⟨_, rfl, Go.Eng.S12.cw_qmap _⟩, trivial⟩ trivial ?_
          exact k4 _ _ (by simp [icon, hget, sps])
  · cases e
end Go.Eng.S12
