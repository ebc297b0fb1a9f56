/- Seat top, land: the table of types; hits, maps: small functions, walked. -/
import Derived.Test.YthfpdhhnokhldaaEngX
import Derived.Test.YthfpdhhnokhldaaEngX
import Derived.Test.YthfpdhhnokhldaaS27I
import Derived.Test.YthfpdhhnokhldaaProg
set_option linter.unusedSimpArgs false
set_option linter.unusedVariables false
namespace Go.Eng.S27
open Go.Proofs Go.IntWalk
def T0 : Tab := [(1, ⟨1, 8, .other, [.nilf]⟩),
  (2, ⟨1, 8, .int .i64, [.int .i64 0]⟩),
  (3, ⟨1, 8, .int .i64, [.int .i64 0]⟩),
  (4, ⟨1, 1, .bool, [.bool false]⟩),
  (5, ⟨1, 1, .int .u8, [.int .u8 0]⟩),
  (6, ⟨1, 1, .int .u8, [.int .u8 0]⟩),
  (8, ⟨4, 24, .struct [(0, 2, 1), (1, 3, 1), (2, 4, 1), (3, 6, 1)], [.int .i64 0, .int .i64 0, .bool false, .int .u8 0]⟩),
  (9, ⟨1, 16, .str, [.str ⟨⟨[]⟩⟩]⟩),
  (10, ⟨1, 16, .str, [.str ⟨⟨[]⟩⟩]⟩),
  (11, ⟨1, 16, .str, [.str ⟨⟨[]⟩⟩]⟩),
  (15, ⟨1, 8, .ptr 98, [.nilp]⟩),
  (16, ⟨1, 8, .ptr 101, [.nilp]⟩),
  (17, ⟨1, 8, .ptr 110, [.nilp]⟩),
  (22, ⟨1, 24, .slice 5, [.nils]⟩),
  (24, ⟨4, 48, .struct [(0, 3, 1), (1, 3, 1), (2, 3, 1), (3, 22, 1)], [.int .i64 0, .int .i64 0, .int .i64 0, .nils]⟩),
  (25, ⟨1, 24, .slice 31, [.nils]⟩),
  (27, ⟨7, 88, .struct [(0, 24, 4), (4, 25, 1), (5, 2, 1), (6, 2, 1)], [.int .i64 0, .int .i64 0, .int .i64 0, .nils, .nils, .int .i64 0, .int .i64 0]⟩),
  (31, ⟨4, 32, .struct [(0, 3, 1), (1, 3, 1), (2, 3, 1), (3, 3, 1)], [.int .i64 0, .int .i64 0, .int .i64 0, .int .i64 0]⟩),
  (32, ⟨1, 8, .int .i64, [.int .i64 0]⟩),
  (38, ⟨1, 8, .other, [.nilf]⟩),
  (43, ⟨4, 32, .struct [(0, 3, 1), (1, 3, 1), (2, 3, 1), (3, 3, 1)], [.int .i64 0, .int .i64 0, .int .i64 0, .int .i64 0]⟩),
  (44, ⟨4, 32, .struct [(0, 3, 1), (1, 3, 1), (2, 3, 1), (3, 3, 1)], [.int .i64 0, .int .i64 0, .int .i64 0, .int .i64 0]⟩),
  (45, ⟨4, 32, .struct [(0, 3, 1), (1, 3, 1), (2, 3, 1), (3, 3, 1)], [.int .i64 0, .int .i64 0, .int .i64 0, .int .i64 0]⟩),
  (50, ⟨2, 16, .struct [(0, 3, 1), (1, 3, 1)], [.int .i64 0, .int .i64 0]⟩),
  (53, ⟨1, 24, .slice 50, [.nils]⟩),
  (59, ⟨1, 8, .other, [.nilf]⟩),
  (63, ⟨1, 8, .other, [.nilf]⟩),
  (64, ⟨1, 8, .other, [.nilf]⟩),
  (66, ⟨4, 32, .array 4 3, [.int .i64 0, .int .i64 0, .int .i64 0, .int .i64 0]⟩),
  (69, ⟨1, 8, .int .u64, [.int .u64 0]⟩),
  (85, ⟨1, 24, .slice 3, [.nils]⟩),
  (86, ⟨1, 8, .int .u64, [.int .u64 0]⟩),
  (87, ⟨2, 16, .array 2 86, [.int .u64 0, .int .u64 0]⟩)]
theorem T0_ok : TabOK Try.prog T0 := by
  have e : tabOf Try.prog [1, 2, 3, 4, 5, 6, 8, 9, 10, 11, 15, 16, 17, 22, 24, 25, 27, 31, 32, 38, 43, 44, 45, 50, 53, 59, 63, 64, 66, 69, 85, 86, 87] = T0 := by kernel_rfl
  exact e ▸ tabOf_sound Try.prog [1, 2, 3, 4, 5, 6, 8, 9, 10, 11, 15, 16, 17, 22, 24, 25, 27, 31, 32, 38, 43, 44, 45, 50, 53, 59, 63, 64, 66, 69, 85, 86, 87]


/-- The table, and an iterator over hits. -/
def T : Tab := (63, ⟨1, 8, .iter 38 4, [.nilf]⟩) :: T0
theorem T_ok : TabOK Try.prog T := by
  intro t ti e
  simp only [T, tget] at e
  cases h : (63 == t) with
  | false => rw [h] at e; exact T0_ok t ti e
  | true =>
    have : 63 = t := by simpa using h
    subst this
    rw [h] at e
    simp only [cond_true, Option.some.injEq] at e
    subst e
    have h0 := T0_ok 63 ⟨1, 8, .other, [.nilf]⟩ (by kernel_rfl)
    obtain ⟨d, h1, h2, _⟩ := h0.agg
    exact ⟨h0.info, h0.pos, h0.wid, h0.one, h0.zag, d, h1, h2, iter_ok⟩
set_option maxRecDepth 10000

def U (f : Nat → AV) : Nat → Int := fun i => iv (f i)
def nU (u : Nat → Int) : Nat → AV := fun i => .int .u8 (u i)
theorem nU_flat (u : Nat → Int) (i : Nat) : Flat (nU u i) := .int _ _
theorem U_nU (u : Nat → Int) : U (nU u) = u := rfl
structure IsU (n : Nat) (f : Nat → AV) : Prop where
  get : ∀ i, i < n → f i = nU (U f) i ∧ 0 ≤ U f i ∧ U f i ≤ 255
theorem isU {n : Nat} {u : Nat → Int} (h : ∀ i, i < n → 0 ≤ u i ∧ u i ≤ 255) : IsU n (nU u) := ⟨fun i hi => ⟨rfl, h i hi⟩⟩
def mp4 (W H A : Int) (n : Nat) (u : Nat → Int) : AV := .agg [.int .i64 W, .int .i64 H, .int .i64 A, .rs 1 n false (nU u)]
/-- A map that is handed in. -/
theorem map_pass {hr : Rd} {rdl : List (Nat × Nat × Cont)} {K : List Nat} {nb : Nat} {W H A : Int} {v : AV} {n : Nat} {f : Nat → AV} {rd : List (Nat × Nat × Cont)} (e : sl 1 hr v = some (n, f, rd)) (hm : ∀ y ∈ rd, y ∈ rdl ∧ y.1 ∉ K) (h : IsU n f) {vs vs' : List AV} (t : PassL hr rdl K nb false vs vs') :
    PassL hr rdl K nb false (.agg [.int .i64 W, .int .i64 H, .int .i64 A, v] :: vs) (mp4 W H A n (U f) :: vs') := by
  refine .agg _ _ _ _ rfl (fun i a b h1 h2 => ?_) (fun k g hk => ?_) t
  · match i with
    | 0 => cases h1; cases h2; exact .same _ _ (.int _ _)
    | 1 => cases h1; cases h2; exact .same _ _ (.int _ _)
    | 2 => cases h1; cases h2; exact .same _ _ (.int _ _)
    | 3 => cases h1; cases h2; exact .slice _ _ _ _ _ e hm _ fun i hi => ⟨(h.get i hi).1, (nU_flat _ i).has⟩
    | i + 4 => simp at h1
  · simp only [List.mem_cons, List.not_mem_nil, or_false] at hk
    rcases hk with hk | hk | hk | hk
    · cases hk
    · cases hk
    · cases hk
    · rw [← hk] at e; simp [sl] at e

/-! ### Hits -/
def nearB (i : Int) : Bool := decide (-64 ≤ i) && decide (i ≤ 128)
def sNear : Spec := fun args _ _ => match args with
  | [.int .i64 i] => some ⟨[], .bool (nearB i), [], []⟩
  | _ => none
theorem near_ok : SpecOK Try.prog 19 sNear := by
  refine spec_own (by kernel_rfl) T_ok sget_nil Try.func19 rfl rfl fun args hr nb out e => ?_
  unfold sNear at e
  split at e
  · rename_i i
    injection e with e; subst e
    refine ⟨(fun _ h => nomatch h), true, [.int .i64 i], rfl, fun hs => ⟨.cons _ _ _ _ (.same _ _ (.int _ _)) .nil, ?_⟩⟩
    refine evC_go0 (dec := []) (ks := [(0, 0), (0, 2)]) (s' := ⟨[(0, 0, Cont.cell (AV.int IntKind.i64 i)), (0, 2, Cont.cell (AV.bool false))], 9, 9⟩) (by kernel_rfl) (by kernel_rfl) ?_
    refine evC_go0 (dec := []) (ks := [(0, 2)]) (s' := ⟨[(0, 2, Cont.cell (AV.bool (bif decide (i ≥ -64) then decide (i ≤ 128) else false)))], 65, 9⟩) (by kernel_rfl) (by kernel_rfl) ?_
    refine evC_ret ?_
    refine post_ret ?_
    refine ends_flat (vs := [AV.bool (bif decide (i ≥ -64) then decide (i ≤ 128) else false)]) (Nat.zero_lt_succ _) (by kernel_rfl) (flat_of _ (by kernel_rfl)) rfl ?_
    simp only [cond_and, oneAV, ge_iff_le, nearB]
  · cases e
structure Hit where
  i : Int
  j : Int
  r : Int
  d : Int
def hitV (h : Hit) : AV := .agg [.int .i64 h.i, .int .i64 h.j, .int .i64 h.r, .int .i64 h.d]
def mayH (h : Hit) : Bool := decide (1 ≤ h.r) && decide (h.r ≤ 8) && decide (0 ≤ h.d) && decide (h.d ≤ 255) && nearB h.i && nearB h.j
def sMay : Spec := fun args _ _ => match args with
  | [.agg [.int .i64 i, .int .i64 j, .int .i64 r, .int .i64 d]] => some ⟨[], .bool (mayH ⟨i, j, r, d⟩), [], []⟩
  | _ => none
theorem may_ok : SpecOK Try.prog 18 sMay := by
  refine spec_own (by kernel_rfl) T_ok (sget_cons near_ok sget_nil) Try.func18 rfl rfl fun args hr nb out e => ?_
  unfold sMay at e
  split at e
  · rename_i i j r d
    injection e with e; subst e
    refine ⟨(fun _ h => nomatch h), true, [hitV ⟨i, j, r, d⟩], rfl, fun hs => ⟨.cons _ _ _ _ (.same _ _ (flat_of _ rfl).has) .nil, ?_⟩⟩
    unfold hitV
    refine evC_go0 (dec := []) (ks := [(0, 1), (0, 2), (1, 0), (1, 1), (1, 2), (1, 3), (1, 4)]) (s' := ⟨[(0, 1, Cont.cell (AV.ptr 1 0)), (0, 2, Cont.cell (AV.bool false)), (1, 0, Cont.cell (AV.int IntKind.i64 i)), (1, 1, Cont.cell (AV.int IntKind.i64 j)), (1, 2, Cont.cell (AV.int IntKind.i64 r)), (1, 3, Cont.cell (AV.int IntKind.i64 d)), (1, 4, Cont.top)], 17, 31⟩) (by kernel_rfl) (by kernel_rfl) ?_
    refine evC_go0 (dec := []) (ks := [(0, 2)]) (s' := ⟨[(0, 2, Cont.cell (AV.bool (bif bif bif bif bif decide (r ≥ 1) then decide (r ≤ 8) else false then decide (d ≥ 0) else false then decide (d ≤ 255) else false then nearB i else false then nearB j else false)))], 249, 31⟩) (by kernel_rfl) (by kernel_rfl) ?_
    refine evC_ret ?_
    refine post_ret ?_
    refine ends_flat (vs := [AV.bool (bif bif bif bif bif decide (r ≥ 1) then decide (r ≤ 8) else false then decide (d ≥ 0) else false then decide (d ≤ 255) else false then nearB i else false then nearB j else false)]) (Nat.zero_lt_succ _) (by kernel_rfl) (flat_of _ (by kernel_rfl)) rfl ?_
    simp only [cond_and, oneAV, ge_iff_le, mayH]
  · cases e
def lowers (h : Hit) (i j : Int) : Int := bif mayH h && nearB i && nearB j then (mx2 0 (h.d * (h.r * h.r - (i - h.i) * (i - h.i) - (j - h.j) * (j - h.j)))).tdiv (h.r * h.r) else 0
theorem mul_le_of {a b m n : Int} (ha : 0 ≤ a ∧ a ≤ m) (hb : 0 ≤ b ∧ b ≤ n) : 0 ≤ a * b ∧ a * b ≤ m * n := by
  refine ⟨Int.mul_nonneg ha.1 hb.1, ?_⟩
  exact Int.le_trans (Int.mul_le_mul_of_nonneg_right ha.2 hb.1) (Int.mul_le_mul_of_nonneg_left hb.2 (by omega))
theorem sq_bd {a m : Int} (h : -m ≤ a ∧ a ≤ m) : 0 ≤ a * a ∧ a * a ≤ m * m := by
  rcases Int.le_total 0 a with h0 | h0
  · exact mul_le_of ⟨h0, h.2⟩ ⟨h0, h.2⟩
  · have := mul_le_of (a := -a) (b := -a) (m := m) (n := m) ⟨by omega, by omega⟩ ⟨by omega, by omega⟩
    rwa [Int.neg_mul_neg] at this
theorem mayH_get {h : Hit} (e : mayH h = true) : (1 ≤ h.r ∧ h.r ≤ 8) ∧ (0 ≤ h.d ∧ h.d ≤ 255) ∧ (-64 ≤ h.i ∧ h.i ≤ 128) ∧ (-64 ≤ h.j ∧ h.j ≤ 128) := by
  unfold mayH nearB at e
  simp only [Bool.and_eq_true, decide_eq_true_eq] at e
  omega
theorem nearB_get {i : Int} (h : nearB i = true) : -64 ≤ i ∧ i ≤ 128 := by
  unfold nearB at h
  simp only [Bool.and_eq_true, decide_eq_true_eq] at h
  exact h
theorem lowers_nonneg (h : Hit) (i j : Int) : 0 ≤ lowers h i j := by
  unfold lowers
  cases mayH h && nearB i && nearB j with
  | false => exact Int.le_refl _
  | true =>
    refine Int.tdiv_nonneg ?_ ?_
    · unfold mx2; split <;> omega
    · exact (sq_bd (m := if 0 ≤ h.r then h.r else -h.r) (by split <;> omega)).1
def sLowers : Spec := fun args _ _ => match args with
  | [.agg [.int .i64 i, .int .i64 j, .int .i64 r, .int .i64 d], .int .i64 x, .int .i64 y] => some ⟨[], .int .i64 (lowers ⟨i, j, r, d⟩ x y), [], []⟩
  | _ => none
theorem lowers_ok : SpecOK Try.prog 6 sLowers := by
  refine spec_own (by kernel_rfl) T_ok (sget_cons near_ok (sget_cons may_ok sget_nil)) Try.func6 rfl rfl fun args hr nb out e => ?_
  unfold sLowers at e
  split at e
  · rename_i i j r d x y
    injection e with e; subst e
    refine ⟨(fun _ h => nomatch h), true, [hitV ⟨i, j, r, d⟩, .int .i64 x, .int .i64 y], rfl, fun hs => ⟨.cons _ _ _ _ (.same _ _ (flat_of _ rfl).has) (.cons _ _ _ _ (.same _ _ (.int _ _)) (.cons _ _ _ _ (.same _ _ (.int _ _)) .nil)), ?_⟩⟩
    unfold hitV
    refine evC_go0 (dec := []) (ks := [(0, 1), (0, 2), (0, 3), (0, 6), (1, 0), (1, 1), (1, 2), (1, 3), (1, 4)]) (s' := ⟨[(0, 1, Cont.cell (AV.int IntKind.i64 x)), (0, 2, Cont.cell (AV.int IntKind.i64 y)), (0, 3, Cont.cell (AV.ptr 1 0)), (0, 6, Cont.cell (AV.int IntKind.i64 0)), (1, 0, Cont.cell (AV.int IntKind.i64 i)), (1, 1, Cont.cell (AV.int IntKind.i64 j)), (1, 2, Cont.cell (AV.int IntKind.i64 r)), (1, 3, Cont.cell (AV.int IntKind.i64 d)), (1, 4, Cont.top)], 17, 51⟩) (by kernel_rfl) (by kernel_rfl) ?_
    refine evC_seq ?_
    refine evC_go0 (dec := []) (ks := [(0, 1), (0, 2), (0, 3), (0, 6), (0, 22), (1, 0), (1, 1), (1, 2), (1, 3), (1, 4)]) (s' := ⟨[(0, 1, Cont.cell (AV.int IntKind.i64 x)), (0, 2, Cont.cell (AV.int IntKind.i64 y)), (0, 3, Cont.cell (AV.ptr 1 0)), (0, 6, Cont.cell (AV.int IntKind.i64 0)), (0, 22, Cont.cell (AV.bool (bif bif !mayH { i := i, j := j, r := r, d := d } then true else !nearB x then true else !nearB y))), (1, 0, Cont.cell (AV.int IntKind.i64 i)), (1, 1, Cont.cell (AV.int IntKind.i64 j)), (1, 2, Cont.cell (AV.int IntKind.i64 r)), (1, 3, Cont.cell (AV.int IntKind.i64 d)), (1, 4, Cont.top)], 121, 51⟩) (by kernel_rfl) (by kernel_rfl) ?_
    have hcond : (bif bif !mayH ⟨i, j, r, d⟩ then true else !nearB x then true else !nearB y) = !(mayH ⟨i, j, r, d⟩ && nearB x && nearB y) := by
      cases mayH ⟨i, j, r, d⟩ <;> cases nearB x <;> cases nearB y <;> rfl
    rw [hcond]
    clear hcond
    cases hc : (mayH ⟨i, j, r, d⟩ && nearB x && nearB y) with
    | false =>
      have hl : lowers ⟨i, j, r, d⟩ x y = 0 := by unfold lowers; rw [hc]; rfl
      rw [hl]
      refine evC_if (q := true) (by kernel_rfl) (fun hc => ?_) (fun hc => ?_)
      · refine evC_go0 (dec := []) (ks := [(0, 1), (0, 2), (0, 3), (0, 6), (1, 0), (1, 1), (1, 2), (1, 3), (1, 4)]) (s' := ⟨[(0, 1, Cont.cell (AV.int IntKind.i64 x)), (0, 2, Cont.cell (AV.int IntKind.i64 y)), (0, 3, Cont.cell (AV.ptr 1 0)), (0, 6, Cont.cell (AV.int IntKind.i64 0)), (1, 0, Cont.cell (AV.int IntKind.i64 i)), (1, 1, Cont.cell (AV.int IntKind.i64 j)), (1, 2, Cont.cell (AV.int IntKind.i64 r)), (1, 3, Cont.cell (AV.int IntKind.i64 d)), (1, 4, Cont.top)], 129, 51⟩) (by kernel_rfl) (by kernel_rfl) ?_
        refine evC_ret ?_
        refine then_ret ?_
        refine post_ret ?_
        refine ends_flat (vs := [AV.int IntKind.i64 0]) (Nat.zero_lt_succ _) (by kernel_rfl) (flat_of _ (by kernel_rfl)) rfl ?_
        rfl
      · cases ‹(!false) = false›
    | true =>
      have hl : lowers ⟨i, j, r, d⟩ x y = (mx2 0 (d * (r * r - (x - i) * (x - i) - (y - j) * (y - j)))).tdiv (r * r) := by unfold lowers; rw [hc]; rfl
      rw [hl]
      simp only [Bool.and_eq_true] at hc
      obtain ⟨⟨h1, h2⟩, h3⟩ := hc
      have h1 := mayH_get h1
      simp only at h1
      have h2 := nearB_get h2
      have h3 := nearB_get h3
      obtain ⟨hr, hd, hi, hj⟩ := h1
      have e1 : IntKind.i64.wrap (x - i) = x - i := i64_in _ (by omega)
      have e2 : IntKind.i64.wrap (y - j) = y - j := i64_in _ (by omega)
      have b1 := sq_bd (a := r) (m := 8) ⟨by omega, by omega⟩
      have b2 := sq_bd (a := x - i) (m := 192) ⟨by omega, by omega⟩
      have b3 := sq_bd (a := y - j) (m := 192) ⟨by omega, by omega⟩
      have hr1 : 1 ≤ r * r := by
        have := Int.mul_le_mul_of_nonneg_left hr.1 (by omega : 0 ≤ r)
        omega
      generalize hR : r * r = R at *
      generalize hX : (x - i) * (x - i) = X at *
      generalize hY : (y - j) * (y - j) = Y at *
      have b4 : -(255 * 73728) ≤ d * (R - X - Y) ∧ d * (R - X - Y) ≤ 255 * 64 := by
        rcases Int.le_total 0 (R - X - Y) with h0 | h0
        · have := mul_le_of (a := d) (b := R - X - Y) (m := 255) (n := 64) hd ⟨h0, by omega⟩
          omega
        · have := mul_le_of (a := d) (b := -(R - X - Y)) (m := 255) (n := 73728) hd ⟨by omega, by omega⟩
          rw [Int.mul_neg] at this
          omega
      refine evC_if (q := false) (by kernel_rfl) (fun hc => ?_) (fun hc => ?_)
      · cases ‹(!true) = true›
      refine evC_skip ?_
      refine then_normal ?_
      refine evC_go0 (dec := []) (ks := [(0, 3), (0, 6), (0, 7), (0, 8), (0, 9), (1, 0), (1, 1), (1, 2), (1, 3), (1, 4)]) (s' := ⟨[(0, 3, Cont.cell (AV.ptr 1 0)), (0, 6, Cont.cell (AV.int IntKind.i64 0)), (0, 7, Cont.cell (AV.int IntKind.i64 (IntKind.i64.wrap (x - i)))), (0, 8, Cont.cell (AV.int IntKind.i64 (IntKind.i64.wrap (y - j)))), (0, 9, Cont.cell (AV.int IntKind.i64 (IntKind.i64.wrap (r * r)))), (1, 0, Cont.cell (AV.int IntKind.i64 i)), (1, 1, Cont.cell (AV.int IntKind.i64 j)), (1, 2, Cont.cell (AV.int IntKind.i64 r)), (1, 3, Cont.cell (AV.int IntKind.i64 d)), (1, 4, Cont.top)], 249, 51⟩) (by kernel_rfl) (by kernel_rfl) ?_
      rw [e1, e2, hR, i64_in R (by omega)]
      have hR0 : R ≠ 0 := by omega
      refine evC_go (dec := []) (ks := [(0, 6)]) (ps := [R ≠ (0 : Int)]) (s' := ⟨[(0, 6, Cont.cell (AV.int IntKind.i64 (IntKind.i64.wrap (Int.tdiv (mx2 0 (IntKind.i64.wrap (d * IntKind.i64.wrap (IntKind.i64.wrap (R - IntKind.i64.wrap ((x - i) * (x - i))) - IntKind.i64.wrap ((y - j) * (y - j)))))) R))))], 377, 51⟩) (by kernel_rfl) (by kernel_rfl) ?_ ?_
      · exact hR0
      rw [hX, hY, i64_in X (by omega), i64_in Y (by omega), i64_in (R - X) (by omega), i64_in (R - X - Y) (by omega), i64_in (d * (R - X - Y)) (by omega)]
      have b5 : 0 ≤ (mx2 0 (d * (R - X - Y))).tdiv R ∧ (mx2 0 (d * (R - X - Y))).tdiv R ≤ 255 * 64 := by
        have h0 : 0 ≤ mx2 0 (d * (R - X - Y)) ∧ mx2 0 (d * (R - X - Y)) ≤ 255 * 64 := by unfold mx2; split <;> omega
        refine ⟨Int.tdiv_nonneg h0.1 (by omega), ?_⟩
        rw [Int.tdiv_eq_ediv_of_nonneg h0.1]
        exact Int.le_trans (Int.ediv_le_self _ h0.1) h0.2
      rw [i64_in _ (by omega)]
      refine evC_ret ?_
      refine post_ret ?_
      refine ends_flat (vs := [AV.int IntKind.i64 (Int.tdiv (mx2 0 (d * (R - X - Y))) R)]) (Nat.zero_lt_succ _) (by kernel_rfl) (flat_of _ (by kernel_rfl)) rfl ?_
      rfl
  · cases e
end Go.Eng.S27
