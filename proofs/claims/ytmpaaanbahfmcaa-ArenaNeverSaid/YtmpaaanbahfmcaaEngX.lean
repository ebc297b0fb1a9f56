/- The engine, part 24: small things that each seat's texts use. -/
import Derived.Test.YtmpaaanbahfmcaaEngV
set_option linter.unusedSimpArgs false
set_option linter.unusedVariables false
namespace Go.Eng
open Go.IntWalk

theorem sget_cons {P : Program} {f : Nat} {s : Spec} {Γ : Specs} (h : SpecOK P f s) (t : SpecsOK P Γ) : SpecsOK P ((f, s) :: Γ) := by
  intro f' s' e
  simp only [sget] at e
  cases hf : (f == f') with
  | true =>
    simp only [hf, cond_true, Option.some.injEq] at e
    have : f = f' := by simpa using hf
    subst this; subst e; exact h
  | false => simp only [hf, cond_false] at e; exact t f' s' e
theorem sget_nil {P : Program} : SpecsOK P [] := fun f s h => by cases h

/-- The number in a struct's cell. -/
def cv (j : Nat) : AV → Int
  | .agg cs => iv (cs.getD j .nils)
  | _ => 0

theorem all_false {n i : Nat} {p : Nat → Bool} (hi : i < n) (h : p i = false) : (List.range n).all p = false := by
  cases e : (List.range n).all p with
  | false => rfl
  | true => have := List.all_eq_true.1 e i (List.mem_range.2 hi); rw [h] at this; cases this
theorem all_true {n : Nat} {p : Nat → Bool} (h : ∀ i, i < n → p i = true) : (List.range n).all p = true :=
  List.all_eq_true.2 fun i hi => h i (List.mem_range.1 hi)
theorem all_get {n : Nat} {p : Nat → Bool} (h : (List.range n).all p = true) {i : Nat} (hi : i < n) : p i = true :=
  List.all_eq_true.1 h i (List.mem_range.2 hi)
theorem wrap_add_one {i n : Nat} (h : i < n) (hn : n < 2 ^ 63) : IntKind.i64.wrap ((i : Int) + 1) = ((i + 1 : Nat) : Int) := by
  rw [i64_in] <;> omega
theorem cond_and (a b : Bool) : (bif a then b else false) = (a && b) := by cases a <;> rfl
theorem cond_or (a b : Bool) : (bif a then true else b) = (a || b) := by cases a <;> rfl
theorem id_one (b : Bool) : ([b].all id = true) = (b = true) := by simp
theorem id_one' (b : Bool) : ([b].all id = false) = (b = false) := by simp
def inR (lo hi x : Int) : Bool := decide (lo ≤ x) && decide (x ≤ hi)
theorem inR_iff {lo hi x : Int} : inR lo hi x = true ↔ lo ≤ x ∧ x ≤ hi := by simp [inR]
theorem inR_not {lo hi x : Int} : inR lo hi x = false ↔ ¬ (lo ≤ x ∧ x ≤ hi) := by
  rw [← inR_iff]; cases inR lo hi x <;> simp
/-- The error's number where something may not be. -/
def errF (ok : Bool) : Int := bif ok then 0 else 1
theorem i64_nat {n : Nat} (h : n < 2 ^ 63) : IntKind.i64.wrap (n : Int) = n := by rw [i64_in] <;> omega

mutual
/-- What a value holds, reckoned. -/
def hasB (nm : Bool) : AV → Bool
  | .int _ _ | .bool _ | .str _ | .nilp | .nils | .nilm | .nilf => true
  | .ptr _ _ | .pe _ _ _ | .vp _ _ _ _ | .vs _ | .mp _ | .it _ => nm
  | .agg cs | .tup cs | .fn _ cs => hasBL nm cs
  | _ => false
def hasBL (nm : Bool) : List AV → Bool
  | [] => true
  | v :: vs => hasB nm v && hasBL nm vs
end
mutual
theorem has_of {nm rd : Bool} : ∀ (v : AV), hasB nm v = true → Has nm rd v
  | .int k n, _ => .int k n
  | .bool b, _ => .bool b
  | .str s, _ => .str s
  | .nilp, _ => .nilp
  | .nils, _ => .nils
  | .nilm, _ => .nilm
  | .nilf, _ => .nilf
  | .agg cs, h => .agg cs (has_ofL cs (by simpa only [hasB] using h))
  | .tup cs, h => .tup cs (has_ofL cs (by simpa only [hasB] using h))
  | .fn f cs, h => .fn f cs (has_ofL cs (by simpa only [hasB] using h))
  | .ptr _ _, h => .ptr _ _ (by simpa only [hasB] using h)
  | .pe _ _ _, h => .pe _ _ _ (by simpa only [hasB] using h)
  | .vp _ _ _ _, h => .vp _ _ _ _ (by simpa only [hasB] using h)
  | .vs _, h => .vs _ (by simpa only [hasB] using h)
  | .mp _, h => .mp _ (by simpa only [hasB] using h)
  | .it _, h => .it _ (by simpa only [hasB] using h)
  | .rp _, h => by simp [hasB] at h
  | .rs _ _ _ _, h => by simp [hasB] at h
  | .arr _ _, h => by simp [hasB] at h
  | .whn _ _, h => by simp [hasB] at h
theorem has_ofL {nm rd : Bool} : ∀ (vs : List AV), hasBL nm vs = true → ∀ v ∈ vs, Has nm rd v
  | [], _, v, hv => by cases hv
  | u :: vs, h, v, hv => by
    simp only [hasBL, Bool.and_eq_true] at h
    rcases List.mem_cons.1 hv with e | hv
    · rw [e]; exact has_of u h.1
    · exact has_ofL vs h.2 v hv
end

/-! ### Blocks that are handed in -/
/-- A block's contents, one behind the other. -/
def laid (n : Nat) : Nat → List Cont → List (Nat × Nat × Cont)
  | off, [] => [(n, off, .top)]
  | off, c :: cs => (n, off, c) :: laid n (off + c.wd) cs
def liveB : Cont → Bool
  | .dead => false
  | _ => true
theorem laid_top (n : Nat) : ∀ (cs : List Cont) (off : Nat), ∃ sz, off ≤ sz ∧ (n, sz, .top) ∈ laid n off cs ∧ (cs.all liveB = true → ∀ o, off ≤ o → o < sz → ∃ o' c, (n, o', c) ∈ laid n off cs ∧ c.live ∧ o' ≤ o ∧ o < o' + c.wd)
  | [], off => ⟨off, Nat.le_refl _, List.mem_singleton.2 rfl, fun _ o h1 h2 => by omega⟩
  | c :: cs, off => by
    obtain ⟨sz, h1, h2, h3⟩ := laid_top n cs (off + c.wd)
    refine ⟨sz, by omega, List.mem_cons_of_mem _ h2, fun hl o h4 h5 => ?_⟩
    simp only [List.all_cons, Bool.and_eq_true] at hl
    rcases Nat.lt_or_ge o (off + c.wd) with h6 | h6
    · exact ⟨off, c, List.mem_cons_self, by cases c <;> first | trivial | simp [liveB] at hl, h4, h6⟩
    · obtain ⟨o', c', k1, k2, k3, k4⟩ := h3 hl.2 o h6 h5
      exact ⟨o', c', List.mem_cons_of_mem _ k1, k2, k3, k4⟩
/-- Of such a block all is known. -/
theorem whole_laid {rd : List (Nat × Nat × Cont)} {n : Nat} (cs : List Cont) (hl : cs.all liveB = true) (h : ∀ x ∈ laid n 0 cs, x ∈ rd) : Whole rd n := by
  obtain ⟨sz, _, h2, h3⟩ := laid_top n cs 0
  exact .cells sz (h _ h2) fun o ho => by
    obtain ⟨o', c, k1, k2⟩ := h3 hl o (Nat.zero_le _) ho
    exact ⟨o', c, h _ k1, k2⟩
/-- What a callee starts with, under its names. -/
def InitH (K : List Nat) (nb : Nat) (rd : List (Nat × Nat × Cont)) : Heap → Prop
  | [] => True
  | x :: t => (∃ (i j n : Nat) (c : Cont), x.1 = i + 1 ∧ K[i]? = some n ∧ rd[j]? = some (n, x.2.1, c) ∧ CW (can K nb) x.2.2 c) ∧ InitH K nb rd t
theorem InitH.get {K : List Nat} {nb : Nat} {rd : List (Nat × Nat × Cont)} : ∀ {h : Heap}, InitH K nb rd h → ∀ x ∈ h, ∃ i n c, x.1 = i + 1 ∧ K[i]? = some n ∧ (n, x.2.1, c) ∈ rd ∧ CW (can K nb) x.2.2 c
  | [], _, x, hx => by cases hx
  | y :: t, h, x, hx => by
    rcases List.mem_cons.1 hx with rfl | hx
    · obtain ⟨i, j, n, c, h1, h2, h3, h4⟩ := h.1
      exact ⟨i, n, c, h1, h2, List.mem_iff_getElem?.2 ⟨j, h3⟩, h4⟩
    · exact InitH.get h.2 x hx

/-- A row of structs, told by its numbers. -/
def st2 (X Y : Nat → Int) (i : Nat) : AV := .agg [.int .i64 (X i), .int .i64 (Y i)]
def st3 (X Y Z : Nat → Int) (i : Nat) : AV := .agg [.int .i64 (X i), .int .i64 (Y i), .int .i64 (Z i)]
def st4 (X Y Z U : Nat → Int) (i : Nat) : AV := .agg [.int .i64 (X i), .int .i64 (Y i), .int .i64 (Z i), .int .i64 (U i)]
theorem st2_flat (X Y : Nat → Int) (i : Nat) : Flat (st2 X Y i) := flat_of _ rfl
theorem st3_flat (X Y Z : Nat → Int) (i : Nat) : Flat (st3 X Y Z i) := flat_of _ rfl
theorem st4_flat (X Y Z U : Nat → Int) (i : Nat) : Flat (st4 X Y Z U i) := flat_of _ rfl
def i64R (x : Int) : Prop := -9223372036854775808 ≤ x ∧ x ≤ 9223372036854775807
/-- Rows that came, by their numbers. -/
def c2 (f : Nat → AV) : Nat → AV := st2 (fun i => cv 0 (f i)) (fun i => cv 1 (f i))
def c3 (f : Nat → AV) : Nat → AV := st3 (fun i => cv 0 (f i)) (fun i => cv 1 (f i)) (fun i => cv 2 (f i))
def c4 (f : Nat → AV) : Nat → AV := st4 (fun i => cv 0 (f i)) (fun i => cv 1 (f i)) (fun i => cv 2 (f i)) (fun i => cv 3 (f i))
def c5 (f : Nat → AV) : Nat → AV := fun i => .agg [.int .i64 (cv 0 (f i)), .int .i64 (cv 1 (f i)), .int .i64 (cv 2 (f i)), .int .i64 (cv 3 (f i)), .int .i64 (cv 4 (f i))]
def c1 (f : Nat → AV) : Nat → AV := fun i => .int .i64 (iv (f i))
def c1b (f : Nat → AV) : Nat → AV := fun i => .bool (bv (f i))
def c1u (f : Nat → AV) : Nat → AV := fun i => .int .u8 (iv (f i))
theorem ofSc2 {f : Nat → List AV} {i : Nat} {vs : List Value} (h : ScL [.int .i64, .int .i64] (f i) vs) : ofSc (f i) = c2 (fun i => ofSc (f i)) i := by
  obtain ⟨a, as, v, vs, e1, rfl, s1, h⟩ := h.head
  obtain ⟨b, as2, v2, vs2, e2, rfl, s2, h⟩ := h.head
  obtain ⟨e3, rfl⟩ := h.done
  subst e2; subst e3
  obtain ⟨x, rfl, rfl, _⟩ := s1.int_inv
  obtain ⟨y, rfl, rfl, _⟩ := s2.int_inv
  show ofSc (f i) = .agg [.int .i64 (cv 0 (ofSc (f i))), .int .i64 (cv 1 (ofSc (f i)))]
  rw [e1]; rfl
theorem ofSc3 {f : Nat → List AV} {i : Nat} {vs : List Value} (h : ScL [.int .i64, .int .i64, .int .i64] (f i) vs) : ofSc (f i) = c3 (fun i => ofSc (f i)) i := by
  obtain ⟨a, as, v, vs, e1, rfl, s1, h⟩ := h.head
  obtain ⟨b, as2, v2, vs2, e2, rfl, s2, h⟩ := h.head
  obtain ⟨c, as3, v3, vs3, e3, rfl, s3, h⟩ := h.head
  obtain ⟨e4, rfl⟩ := h.done
  subst e2; subst e3; subst e4
  obtain ⟨x, rfl, rfl, _⟩ := s1.int_inv
  obtain ⟨y, rfl, rfl, _⟩ := s2.int_inv
  obtain ⟨z, rfl, rfl, _⟩ := s3.int_inv
  show ofSc (f i) = .agg [.int .i64 (cv 0 (ofSc (f i))), .int .i64 (cv 1 (ofSc (f i))), .int .i64 (cv 2 (ofSc (f i)))]
  rw [e1]; rfl
theorem ofSc4 {f : Nat → List AV} {i : Nat} {vs : List Value} (h : ScL [.int .i64, .int .i64, .int .i64, .int .i64] (f i) vs) : ofSc (f i) = c4 (fun i => ofSc (f i)) i := by
  obtain ⟨a, as, v, vs, e1, rfl, s1, h⟩ := h.head
  obtain ⟨b, as2, v2, vs2, e2, rfl, s2, h⟩ := h.head
  obtain ⟨c, as3, v3, vs3, e3, rfl, s3, h⟩ := h.head
  obtain ⟨d, as4, v4, vs4, e4, rfl, s4, h⟩ := h.head
  obtain ⟨e5, rfl⟩ := h.done
  subst e2; subst e3; subst e4; subst e5
  obtain ⟨x, rfl, rfl, _⟩ := s1.int_inv
  obtain ⟨y, rfl, rfl, _⟩ := s2.int_inv
  obtain ⟨z, rfl, rfl, _⟩ := s3.int_inv
  obtain ⟨u, rfl, rfl, _⟩ := s4.int_inv
  show ofSc (f i) = .agg [.int .i64 (cv 0 (ofSc (f i))), .int .i64 (cv 1 (ofSc (f i))), .int .i64 (cv 2 (ofSc (f i))), .int .i64 (cv 3 (ofSc (f i)))]
  rw [e1]; rfl
theorem ofSc5 {f : Nat → List AV} {i : Nat} {vs : List Value} (h : ScL [.int .i64, .int .i64, .int .i64, .int .i64, .int .i64] (f i) vs) : ofSc (f i) = c5 (fun i => ofSc (f i)) i := by
  obtain ⟨a, as, v, vs, e1, rfl, s1, h⟩ := h.head
  obtain ⟨b, as2, v2, vs2, e2, rfl, s2, h⟩ := h.head
  obtain ⟨c, as3, v3, vs3, e3, rfl, s3, h⟩ := h.head
  obtain ⟨d, as4, v4, vs4, e4, rfl, s4, h⟩ := h.head
  obtain ⟨d5, as5, v5, vs5, e5, rfl, s5, h⟩ := h.head
  obtain ⟨e6, rfl⟩ := h.done
  subst e2; subst e3; subst e4; subst e5; subst e6
  obtain ⟨x, rfl, rfl, _⟩ := s1.int_inv
  obtain ⟨y, rfl, rfl, _⟩ := s2.int_inv
  obtain ⟨z, rfl, rfl, _⟩ := s3.int_inv
  obtain ⟨u, rfl, rfl, _⟩ := s4.int_inv
  obtain ⟨q, rfl, rfl, _⟩ := s5.int_inv
  show ofSc (f i) = .agg [.int .i64 (cv 0 (ofSc (f i))), .int .i64 (cv 1 (ofSc (f i))), .int .i64 (cv 2 (ofSc (f i))), .int .i64 (cv 3 (ofSc (f i))), .int .i64 (cv 4 (ofSc (f i)))]
  rw [e1]; rfl
theorem ofSc1 {f : Nat → List AV} {i : Nat} {vs : List Value} (h : ScL [.int .i64] (f i) vs) : ofSc (f i) = c1 (fun i => ofSc (f i)) i := by
  obtain ⟨x, hx⟩ := ofSc_int h
  show ofSc (f i) = .int .i64 (iv (ofSc (f i)))
  rw [hx]; rfl
theorem ofSc1u {f : Nat → List AV} {i : Nat} {vs : List Value} (h : ScL [.int .u8] (f i) vs) : ofSc (f i) = c1u (fun i => ofSc (f i)) i ∧ 0 ≤ iv (ofSc (f i)) ∧ iv (ofSc (f i)) ≤ 255 := by
  obtain ⟨a, as, v, vs, e1, rfl, s1, h⟩ := h.head
  obtain ⟨e2, rfl⟩ := h.done
  subst e2
  obtain ⟨x, rfl, rfl, hw⟩ := s1.int_inv
  refine ⟨?_, ?_⟩
  · show ofSc (f i) = .int .u8 (iv (ofSc (f i)))
    rw [e1]; rfl
  · rw [e1]
    show 0 ≤ x ∧ x ≤ 255
    have h1 : IntKind.u8.min = 0 := rfl
    have h2 : IntKind.u8.max = 255 := rfl
    simp [Lit.wf] at hw
    omega
theorem ofSc1b {f : Nat → List AV} {i : Nat} {vs : List Value} (h : ScL [.bool] (f i) vs) : ofSc (f i) = c1b (fun i => ofSc (f i)) i := by
  obtain ⟨a, as, v, vs, e1, rfl, s1, h⟩ := h.head
  obtain ⟨e2, rfl⟩ := h.done
  subst e2
  cases s1
  show ofSc (f i) = .bool (bv (ofSc (f i)))
  rw [e1]; rfl
theorem catF_snoc {n : Nat} {F g : Nat → AV} (h : g 0 = F n) (j : Nat) (hj : j < n + 1) : catF n F g j = F j := by
  rcases Nat.lt_or_ge j n with h1 | h1
  · exact catF_lt h1
  · have : j = n := by omega
    subst this
    rw [catF_ge (Nat.le_refl _), Nat.sub_self, h]
/-- A row of numbers, told by a list. -/
def lst (l : List Int) (i : Nat) : AV := .int .i64 (l.getD i 0)
theorem catF_lst {l : List Int} {x : Int} {g : Nat → AV} (h : g 0 = .int .i64 x) (j : Nat) (hj : j < l.length + 1) : catF l.length (lst l) g j = lst (l ++ [x]) j := by
  rcases Nat.lt_or_ge j l.length with h1 | h1
  · rw [catF_lt h1]
    simp [lst, List.getD_eq_getElem?_getD, List.getElem?_append_left h1]
  · have : j = l.length := by omega
    subst this
    rw [catF_ge (Nat.le_refl _), Nat.sub_self, h]
    simp [lst]
end Go.Eng
