/- The engine, part 24: small things that each seat's texts use. -/
import Derived.Test.YtkcigkoocimnlaaEngT
set_option linter.unusedSimpArgs false
set_option linter.unusedVariables false
namespace Go.Eng
open Go.IntWalk

theorem sget_cons {P : Program} {f : Nat} {s : Spec} {Γ : Specs} (h : SpecOK P f s) (t : SpecsOK P Γ) : SpecsOK P ((f, s) :: Γ) := by
  intro f' s' e
  simp only [sget] at e
  cases hf : (f == f') with
  | true =>
    simp only [hf, cond_true, Option.some.injEq] at e
    have : f = f' := by simpa using hf
    subst this; subst e; exact h
  | false => simp only [hf, cond_false] at e; exact t f' s' e
theorem sget_nil {P : Program} : SpecsOK P [] := fun f s h => by cases h

/-- The number in a struct's cell. -/
def cv (j : Nat) : AV → Int
  | .agg cs => iv (cs.getD j .nils)
  | _ => 0

theorem all_false {n i : Nat} {p : Nat → Bool} (hi : i < n) (h : p i = false) : (List.range n).all p = false := by
  cases e : (List.range n).all p with
  | false => rfl
  | true => have := List.all_eq_true.1 e i (List.mem_range.2 hi); rw [h] at this; cases this
theorem all_true {n : Nat} {p : Nat → Bool} (h : ∀ i, i < n → p i = true) : (List.range n).all p = true :=
  List.all_eq_true.2 fun i hi => h i (List.mem_range.1 hi)
theorem all_get {n : Nat} {p : Nat → Bool} (h : (List.range n).all p = true) {i : Nat} (hi : i < n) : p i = true :=
  List.all_eq_true.1 h i (List.mem_range.2 hi)
theorem wrap_add_one {i n : Nat} (h : i < n) (hn : n < 2 ^ 63) : IntKind.i64.wrap ((i : Int) + 1) = ((i + 1 : Nat) : Int) := by
  rw [i64_in] <;> omega
theorem cond_and (a b : Bool) : (bif a then b else false) = (a && b) := by cases a <;> rfl
theorem cond_or (a b : Bool) : (bif a then true else b) = (a || b) := by cases a <;> rfl
theorem id_one (b : Bool) : ([b].all id = true) = (b = true) := by simp
theorem id_one' (b : Bool) : ([b].all id = false) = (b = false) := by simp
def inR (lo hi x : Int) : Bool := decide (lo ≤ x) && decide (x ≤ hi)
theorem inR_iff {lo hi x : Int} : inR lo hi x = true ↔ lo ≤ x ∧ x ≤ hi := by simp [inR]
theorem inR_not {lo hi x : Int} : inR lo hi x = false ↔ ¬ (lo ≤ x ∧ x ≤ hi) := by
  rw [← inR_iff]; cases inR lo hi x <;> simp
/-- The error's number where something may not be. -/
def errF (ok : Bool) : Int := bif ok then 0 else 1
theorem i64_nat {n : Nat} (h : n < 2 ^ 63) : IntKind.i64.wrap (n : Int) = n := by rw [i64_in] <;> omega

mutual
/-- What a value holds, reckoned. -/
def hasB (nm : Bool) : AV → Bool
  | .int _ _ | .bool _ | .str _ | .nilp | .nils | .nilm | .nilf => true
  | .ptr _ _ | .pe _ _ _ | .vp _ _ _ _ | .vs _ | .mp _ | .it _ => nm
  | .agg cs | .tup cs | .fn _ cs => hasBL nm cs
  | _ => false
def hasBL (nm : Bool) : List AV → Bool
  | [] => true
  | v :: vs => hasB nm v && hasBL nm vs
end
mutual
theorem has_of {nm rd : Bool} : ∀ (v : AV), hasB nm v = true → Has nm rd v
  | .int k n, _ => .int k n
  | .bool b, _ => .bool b
  | .str s, _ => .str s
  | .nilp, _ => .nilp
  | .nils, _ => .nils
  | .nilm, _ => .nilm
  | .nilf, _ => .nilf
  | .agg cs, h => .agg cs (has_ofL cs (by simpa only [hasB] using h))
  | .tup cs, h => .tup cs (has_ofL cs (by simpa only [hasB] using h))
  | .fn f cs, h => .fn f cs (has_ofL cs (by simpa only [hasB] using h))
  | .ptr _ _, h => .ptr _ _ (by simpa only [hasB] using h)
  | .pe _ _ _, h => .pe _ _ _ (by simpa only [hasB] using h)
  | .vp _ _ _ _, h => .vp _ _ _ _ (by simpa only [hasB] using h)
  | .vs _, h => .vs _ (by simpa only [hasB] using h)
  | .mp _, h => .mp _ (by simpa only [hasB] using h)
  | .it _, h => .it _ (by simpa only [hasB] using h)
  | .rp _, h => by simp [hasB] at h
  | .rs _ _ _ _, h => by simp [hasB] at h
  | .arr _ _, h => by simp [hasB] at h
  | .whn _ _, h => by simp [hasB] at h
theorem has_ofL {nm rd : Bool} : ∀ (vs : List AV), hasBL nm vs = true → ∀ v ∈ vs, Has nm rd v
  | [], _, v, hv => by cases hv
  | u :: vs, h, v, hv => by
    simp only [hasBL, Bool.and_eq_true] at h
    rcases List.mem_cons.1 hv with e | hv
    · rw [e]; exact has_of u h.1
    · exact has_ofL vs h.2 v hv
end

/-! ### Blocks that are handed in -/
/-- A block's contents, one behind the other. -/
def laid (n : Nat) : Nat → List Cont → List (Nat × Nat × Cont)
  | off, [] => [(n, off, .top)]
  | off, c :: cs => (n, off, c) :: laid n (off + c.wd) cs
def liveB : Cont → Bool
  | .dead => false
  | _ => true
theorem laid_top (n : Nat) : ∀ (cs : List Cont) (off : Nat), ∃ sz, off ≤ sz ∧ (n, sz, .top) ∈ laid n off cs ∧ (cs.all liveB = true → ∀ o, off ≤ o → o < sz → ∃ o' c, (n, o', c) ∈ laid n off cs ∧ c.live ∧ o' ≤ o ∧ o < o' + c.wd)
  | [], off => ⟨off, Nat.le_refl _, List.mem_singleton.2 rfl, fun _ o h1 h2 => by omega⟩
  | c :: cs, off => by
    obtain ⟨sz, h1, h2, h3⟩ := laid_top n cs (off + c.wd)
    refine ⟨sz, by omega, List.mem_cons_of_mem _ h2, fun hl o h4 h5 => ?_⟩
    simp only [List.all_cons, Bool.and_eq_true] at hl
    rcases Nat.lt_or_ge o (off + c.wd) with h6 | h6
    · exact ⟨off, c, List.mem_cons_self, by cases c <;> first | trivial | simp [liveB] at hl, h4, h6⟩
    · obtain ⟨o', c', k1, k2, k3, k4⟩ := h3 hl.2 o h6 h5
      exact ⟨o', c', List.mem_cons_of_mem _ k1, k2, k3, k4⟩
/-- Of such a block all is known. -/
theorem whole_laid {rd : List (Nat × Nat × Cont)} {n : Nat} (cs : List Cont) (hl : cs.all liveB = true) (h : ∀ x ∈ laid n 0 cs, x ∈ rd) : Whole rd n := by
  obtain ⟨sz, _, h2, h3⟩ := laid_top n cs 0
  exact .cells sz (h _ h2) fun o ho => by
    obtain ⟨o', c, k1, k2⟩ := h3 hl o (Nat.zero_le _) ho
    exact ⟨o', c, h _ k1, k2⟩
/-- What a callee starts with, under its names. -/
def InitH (K : List Nat) (nb : Nat) (rd : List (Nat × Nat × Cont)) : Heap → Prop
  | [] => True
  | x :: t => (∃ (i j n : Nat) (c : Cont), x.1 = i + 1 ∧ K[i]? = some n ∧ rd[j]? = some (n, x.2.1, c) ∧ CW (can K nb) x.2.2 c) ∧ InitH K nb rd t
theorem InitH.get {K : List Nat} {nb : Nat} {rd : List (Nat × Nat × Cont)} : ∀ {h : Heap}, InitH K nb rd h → ∀ x ∈ h, ∃ i n c, x.1 = i + 1 ∧ K[i]? = some n ∧ (n, x.2.1, c) ∈ rd ∧ CW (can K nb) x.2.2 c
  | [], _, x, hx => by cases hx
  | y :: t, h, x, hx => by
    rcases List.mem_cons.1 hx with rfl | hx
    · obtain ⟨i, j, n, c, h1, h2, h3, h4⟩ := h.1
      exact ⟨i, n, c, h1, h2, List.mem_iff_getElem?.2 ⟨j, h3⟩, h4⟩
    · exact InitH.get h.2 x hx

/-- A row of structs, told by its numbers. -/
def st2 (X Y : Nat → Int) (i : Nat) : AV := .agg [.int .i64 (X i), .int .i64 (Y i)]
def st3 (X Y Z : Nat → Int) (i : Nat) : AV := .agg [.int .i64 (X i), .int .i64 (Y i), .int .i64 (Z i)]
def st4 (X Y Z U : Nat → Int) (i : Nat) : AV := .agg [.int .i64 (X i), .int .i64 (Y i), .int .i64 (Z i), .int .i64 (U i)]
theorem st2_flat (X Y : Nat → Int) (i : Nat) : Flat (st2 X Y i) := flat_of _ rfl
theorem st3_flat (X Y Z : Nat → Int) (i : Nat) : Flat (st3 X Y Z i) := flat_of _ rfl
theorem st4_flat (X Y Z U : Nat → Int) (i : Nat) : Flat (st4 X Y Z U i) := flat_of _ rfl
def i64R (x : Int) : Prop := -9223372036854775808 ≤ x ∧ x ≤ 9223372036854775807
/-- Rows that came, by their numbers. -/
def c2 (f : Nat → AV) : Nat → AV := st2 (fun i => cv 0 (f i)) (fun i => cv 1 (f i))
def c3 (f : Nat → AV) : Nat → AV := st3 (fun i => cv 0 (f i)) (fun i => cv 1 (f i)) (fun i => cv 2 (f i))
def c4 (f : Nat → AV) : Nat → AV := st4 (fun i => cv 0 (f i)) (fun i => cv 1 (f i)) (fun i => cv 2 (f i)) (fun i => cv 3 (f i))
def c5 (f : Nat → AV) : Nat → AV := fun i => .agg [.int .i64 (cv 0 (f i)), .int .i64 (cv 1 (f i)), .int .i64 (cv 2 (f i)), .int .i64 (cv 3 (f i)), .int .i64 (cv 4 (f i))]
def c1 (f : Nat → AV) : Nat → AV := fun i => .int .i64 (iv (f i))
def c1b (f : Nat → AV) : Nat → AV := fun i => .bool (bv (f i))
def c1u (f : Nat → AV) : Nat → AV := fun i => .int .u8 (iv (f i))
theorem ofSc2 {f : Nat → List AV} {i : Nat} {vs : List Value} (h : ScL [.int .i64, .int .i64] (f i) vs) : ofSc (f i) = c2 (fun i => ofSc (f i)) i := by
  obtain ⟨a, as, v, vs, e1, rfl, s1, h⟩ := h.head
  obtain ⟨b, as2, v2, vs2, e2, rfl, s2, h⟩ := h.head
  obtain ⟨e3, rfl⟩ := h.done
  subst e2; subst e3
  obtain ⟨x, rfl, rfl, _⟩ := s1.int_inv
  obtain ⟨y, rfl, rfl, _⟩ := s2.int_inv
  show ofSc (f i) = .agg [.int .i64 (cv 0 (ofSc (f i))), .int .i64 (cv 1 (ofSc (f i)))]
  rw [e1]; rfl
theorem ofSc3 {f : Nat → List AV} {i : Nat} {vs : List Value} (h : ScL [.int .i64, .int .i64, .int .i64] (f i) vs) : ofSc (f i) = c3 (fun i => ofSc (f i)) i := by
  obtain ⟨a, as, v, vs, e1, rfl, s1, h⟩ := h.head
  obtain ⟨b, as2, v2, vs2, e2, rfl, s2, h⟩ := h.head
  obtain ⟨c, as3, v3, vs3, e3, rfl, s3, h⟩ := h.head
  obtain ⟨e4, rfl⟩ := h.done
  subst e2; subst e3; subst e4
  obtain ⟨x, rfl, rfl, _⟩ := s1.int_inv
  obtain ⟨y, rfl, rfl, _⟩ := s2.int_inv
  obtain ⟨z, rfl, rfl, _⟩ := s3.int_inv
  show ofSc (f i) = .agg [.int .i64 (cv 0 (ofSc (f i))), .int .i64 (cv 1 (ofSc (f i))), .int .i64 (cv 2 (ofSc (f i)))]
  rw [e1]; rfl
theorem ofSc4 {f : Nat → List AV} {i : Nat} {vs : List Value} (h : ScL [.int .i64, .int .i64, .int .i64, .int .i64] (f i) vs) : ofSc (f i) = c4 (fun i => ofSc (f i)) i := by
  obtain ⟨a, as, v, vs, e1, rfl, s1, h⟩ := h.head
  obtain ⟨b, as2, v2, vs2, e2, rfl, s2, h⟩ := h.head
  obtain ⟨c, as3, v3, vs3, e3, rfl, s3, h⟩ := h.head
  obtain ⟨d, as4, v4, vs4, e4, rfl, s4, h⟩ := h.head
  obtain ⟨e5, rfl⟩ := h.done
  subst e2; subst e3; subst e4; subst e5
  obtain ⟨x, rfl, rfl, _⟩ := s1.int_inv
  obtain ⟨y, rfl, rfl, _⟩ := s2.int_inv
  obtain ⟨z, rfl, rfl, _⟩ := s3.int_inv
  obtain ⟨u, rfl, rfl, _⟩ := s4.int_inv
  show ofSc (f i) = .agg [.int .i64 (cv 0 (ofSc (f i))), .int .i64 (cv 1 (ofSc (f i))), .int .i64 (cv 2 (ofSc (f i))), .int .i64 (cv 3 (ofSc (f i)))]
  rw [e1]; rfl
theorem ofSc5 {f : Nat → List AV} {i : Nat} {vs : List Value} (h : ScL [.int .i64, .int .i64, .int .i64, .int .i64, .int .i64] (f i) vs) : ofSc (f i) = c5 (fun i => ofSc (f i)) i := by
  obtain ⟨a, as, v, vs, e1, rfl, s1, h⟩ := h.head
  obtain ⟨b, as2, v2, vs2, e2, rfl, s2, h⟩ := h.head
  obtain ⟨c, as3, v3, vs3, e3, rfl, s3, h⟩ := h.head
  obtain ⟨d, as4, v4, vs4, e4, rfl, s4, h⟩ := h.head
  obtain ⟨d5, as5, v5, vs5, e5, rfl, s5, h⟩ := h.head
  obtain ⟨e6, rfl⟩ := h.done
  subst e2; subst e3; subst e4; subst e5; subst e6
  obtain ⟨x, rfl, rfl, _⟩ := s1.int_inv
  obtain ⟨y, rfl, rfl, _⟩ := s2.int_inv
  obtain ⟨z, rfl, rfl, _⟩ := s3.int_inv
  obtain ⟨u, rfl, rfl, _⟩ := s4.int_inv
  obtain ⟨q, rfl, rfl, _⟩ := s5.int_inv
  show ofSc (f i) = .agg [.int .i64 (cv 0 (ofSc (f i))), .int .i64 (cv 1 (ofSc (f i))), .int .i64 (cv 2 (ofSc (f i))), .int .i64 (cv 3 (ofSc (f i))), .int .i64 (cv 4 (ofSc (f i)))]
  rw [e1]; rfl
theorem ofSc1 {f : Nat → List AV} {i : Nat} {vs : List Value} (h : ScL [.int .i64] (f i) vs) : ofSc (f i) = c1 (fun i => ofSc (f i)) i := by
  obtain ⟨x, hx⟩ := ofSc_int h
  show ofSc (f i) = .int .i64 (iv (ofSc (f i)))
  rw [hx]; rfl
theorem ofSc1u {f : Nat → List AV} {i : Nat} {vs : List Value} (h : ScL [.int .u8] (f i) vs) : ofSc (f i) = c1u (fun i => ofSc (f i)) i ∧ 0 ≤ iv (ofSc (f i)) ∧ iv (ofSc (f i)) ≤ 255 := by
  obtain ⟨a, as, v, vs, e1, rfl, s1, h⟩ := h.head
  obtain ⟨e2, rfl⟩ := h.done
  subst e2
  obtain ⟨x, rfl, rfl, hw⟩ := s1.int_inv
  refine ⟨?_, ?_⟩
  · show ofSc (f i) = .int .u8 (iv (ofSc (f i)))
    rw [e1]; rfl
  · rw [e1]
    show 0 ≤ x ∧ x ≤ 255
    have h1 : IntKind.u8.min = 0 := rfl
    have h2 : IntKind.u8.max = 255 := rfl
    simp [Lit.wf] at hw
    omega
theorem ofSc1b {f : Nat → List AV} {i : Nat} {vs : List Value} (h : ScL [.bool] (f i) vs) : ofSc (f i) = c1b (fun i => ofSc (f i)) i := by
  obtain ⟨a, as, v, vs, e1, rfl, s1, h⟩ := h.head
  obtain ⟨e2, rfl⟩ := h.done
  subst e2
  cases s1
  show ofSc (f i) = .bool (bv (ofSc (f i)))
  rw [e1]; rfl
theorem catF_snoc {n : Nat} {F g : Nat → AV} (h : g 0 = F n) (j : Nat) (hj : j < n + 1) : catF n F g j = F j := by
  rcases Nat.lt_or_ge j n with h1 | h1
  · exact catF_lt h1
  · have : j = n := by omega
    subst this
    rw [catF_ge (Nat.le_refl _), Nat.sub_self, h]
/-- A row of numbers, told by a list. -/
def lst (l : List Int) (i : Nat) : AV := .int .i64 (l.getD i 0)
theorem catF_lst {l : List Int} {x : Int} {g : Nat → AV} (h : g 0 = .int .i64 x) (j : Nat) (hj : j < l.length + 1) : catF l.length (lst l) g j = lst (l ++ [x]) j := by
  rcases Nat.lt_or_ge j l.length with h1 | h1
  · rw [catF_lt h1]
    simp [lst, List.getD_eq_getElem?_getD, List.getElem?_append_left h1]
  · have : j = l.length := by omega
    subst this
    rw [catF_ge (Nat.le_refl _), Nat.sub_self, h]
    simp [lst]
/-! ### Maps -/
theorem mget_put (es : List (List Int × AV)) (k k' : List Int) (v : AV) : mget (mput es k v) k' = if k' = k then some v else mget es k' := by
  induction es with
  | nil =>
    by_cases h : k' = k
    · subst h; simp [mput, mget]
    · have h2 : (k' == k) = false := by simpa using h
      simp [mput, mget, h2, h]
  | cons e es ih =>
    by_cases h1 : k = e.1
    · have h2 : (k == e.1) = true := by simpa using h1
      simp only [mput, h2, cond_true, mget]
      by_cases h : k' = k
      · subst h; simp
      · have h3 : (k' == k) = false := by simpa using h
        have h4 : (k' == e.1) = false := by rw [← h1]; exact h3
        simp [h3, h4, h]
    · have h2 : (k == e.1) = false := by simpa using h1
      simp only [mput, h2, cond_false, mget, ih]
      by_cases h : k' = k
      · subst h; simp [h2]
      · simp [h]
theorem mget_none_iff (es : List (List Int × AV)) (k : List Int) : mget es k = none ↔ k ∉ es.map (·.1) := by
  induction es with
  | nil => simp [mget]
  | cons e es ih =>
    by_cases h1 : k = e.1
    · have h2 : (k == e.1) = true := by simpa using h1
      simp only [mget, h2, cond_true, List.map_cons, List.mem_cons, reduceCtorEq, false_iff]
      exact fun h => h (.inl h1)
    · have h2 : (k == e.1) = false := by simpa using h1
      simp only [mget, h2, cond_false, ih, List.map_cons, List.mem_cons, h1, false_or]
theorem mget_mem {es : List (List Int × AV)} {k : List Int} {v : AV} (h : mget es k = some v) : (k, v) ∈ es := by
  induction es with
  | nil => simp [mget] at h
  | cons e es ih =>
    cases h2 : (k == e.1) with
    | true =>
      simp only [mget, h2, cond_true, Option.some.injEq] at h
      have : k = e.1 := by simpa using h2
      rw [this, ← h]; exact List.mem_cons_self
    | false =>
      simp only [mget, h2, cond_false] at h
      exact List.mem_cons_of_mem _ (ih h)
/-- No key twice. -/
def ND (es : List (List Int × AV)) : Prop := (es.map (·.1)).Nodup
theorem mput_keys (es : List (List Int × AV)) (k : List Int) (v : AV) : (mput es k v).map (·.1) = bif (mget es k).isSome then es.map (·.1) else es.map (·.1) ++ [k] := by
  induction es with
  | nil => rfl
  | cons e es ih =>
    cases h2 : (k == e.1) with
    | true =>
      have : k = e.1 := by simpa using h2
      simp [mput, mget, h2, this]
    | false =>
      simp only [mput, mget, h2, cond_false, List.map_cons, ih]
      cases (mget es k).isSome <;> rfl
theorem ND.put {es : List (List Int × AV)} (h : ND es) (k : List Int) (v : AV) : ND (mput es k v) := by
  unfold ND
  rw [mput_keys]
  cases hm : mget es k with
  | some x => exact h
  | none =>
    have := (mget_none_iff es k).1 hm
    show (es.map (·.1) ++ [k]).Nodup
    exact List.nodup_append.2 ⟨h, by simp, fun a ha b hb e => by
      simp only [List.mem_singleton] at hb
      subst hb; subst e; exact this ha⟩
theorem mdel_keys (es : List (List Int × AV)) (k : List Int) : (mdel es k).map (·.1) = (es.map (·.1)).erase k := by
  induction es with
  | nil => rfl
  | cons e es ih =>
    cases h2 : (k == e.1) with
    | true =>
      have : e.1 = k := by simpa using (by simpa using h2 : k = e.1).symm
      simp [mdel, h2, this]
    | false =>
      have h3 : (e.1 == k) = false := by simpa using fun h : e.1 = k => (by simpa using h2 : ¬ k = e.1) h.symm
      simp [mdel, h2, List.erase_cons, h3, ih]
theorem ND.del {es : List (List Int × AV)} (h : ND es) (k : List Int) : ND (mdel es k) := by
  unfold ND
  rw [mdel_keys]
  exact h.erase k
theorem mget_del {es : List (List Int × AV)} (h : ND es) (k k' : List Int) : mget (mdel es k) k' = if k' = k then none else mget es k' := by
  induction es with
  | nil => simp [mdel, mget]
  | cons e es ih =>
    have hn : e.1 ∉ es.map (·.1) ∧ ND es := by
      have := List.nodup_cons.1 (by simpa only [ND, List.map_cons] using h)
      exact this
    cases h2 : (k == e.1) with
    | true =>
      have h3 : k = e.1 := by simpa using h2
      simp only [mdel, h2, cond_true]
      by_cases hk : k' = k
      · rw [if_pos hk, hk, mget_none_iff, h3]; exact hn.1
      · rw [if_neg hk]
        have h4 : (k' == e.1) = false := by simpa using h3 ▸ hk
        simp [mget, h4]
    | false =>
      simp only [mdel, h2, cond_false, mget, ih hn.2]
      by_cases hk : k' = k
      · subst hk; simp [h2]
      · simp [hk]
theorem length_put (es : List (List Int × AV)) (k : List Int) (v : AV) : (mput es k v).length = es.length + bif (mget es k).isSome then 0 else 1 := by
  have := congrArg List.length (mput_keys es k v)
  simp only [List.length_map] at this
  rw [this]
  cases (mget es k).isSome <;> simp
/-- A map of values without names. -/
def FlatM (es : List (List Int × AV)) : Prop := ∀ x ∈ es, Flat x.2
theorem FlatM.nil : FlatM [] := fun x hx => by cases hx
theorem FlatM.put {es : List (List Int × AV)} (h : FlatM es) {k : List Int} {v : AV} (hv : Flat v) : FlatM (mput es k v) := by
  induction es with
  | nil => intro x hx; simp only [mput, List.mem_singleton] at hx; subst hx; exact hv
  | cons e es ih =>
    intro x hx
    cases h2 : (k == e.1) with
    | true =>
      simp only [mput, h2, cond_true] at hx
      rcases List.mem_cons.1 hx with rfl | hx
      · exact hv
      · exact h x (List.mem_cons_of_mem _ hx)
    | false =>
      simp only [mput, h2, cond_false] at hx
      rcases List.mem_cons.1 hx with rfl | hx
      · exact h _ List.mem_cons_self
      · exact ih (fun y hy => h y (List.mem_cons_of_mem _ hy)) x hx
theorem mdel_sub {es : List (List Int × AV)} {k : List Int} : ∀ x ∈ mdel es k, x ∈ es := by
  induction es with
  | nil => intro x hx; cases hx
  | cons e es ih =>
    intro x hx
    cases h2 : (k == e.1) with
    | true =>
      simp only [mdel, h2, cond_true] at hx
      exact List.mem_cons_of_mem _ hx
    | false =>
      simp only [mdel, h2, cond_false] at hx
      rcases List.mem_cons.1 hx with rfl | hx
      · exact List.mem_cons_self
      · exact List.mem_cons_of_mem _ (ih x hx)
theorem FlatM.del {es : List (List Int × AV)} (h : FlatM es) {k : List Int} : FlatM (mdel es k) := fun x hx => h x (mdel_sub x hx)
theorem cw_map {es : List (List Int × AV)} (h : FlatM es) {π : Nat → Nat} {ar : Nat} : CW π (.map ar es) (.map ar es) :=
  ⟨rfl, rfl, fun i x hx => by rw [(h x (List.mem_iff_getElem?.2 ⟨i, hx⟩)).ren]; exact hx⟩
theorem wk_sub {B : Nat} {s : St} {h' : Heap} {nx' N' : Nat} (ks : List (Nat × Nat)) (e : pruneH s.h ks = h') (hn : nx' = s.nx) (hN : N' = s.N) : Wk B s ⟨h', nx', N'⟩ := by
  subst e; subst hn; subst hN
  exact .sub ⟨rfl, rfl, fun n o c h => pruneH_sub _ _ _ _ _ h⟩
theorem cw_maps {es : List (List Int × AV)} (h : FlatM es) {π : Nat → Nat} {ar ck : Nat} {bs : List Nat} : CW π (.maps ar es bs ck) (.maps ar es bs ck) :=
  ⟨⟨⟨rfl, rfl⟩, rfl⟩, rfl, (cw_map (ar := ar) h).2.2⟩
theorem cf_map {es : List (List Int × AV)} (h : FlatM es) {b : Bool} {σ : Nat → Nat} {ar : Nat} : CF b σ (.map ar es) (.map ar es) :=
  ⟨rfl, rfl, fun i x hx => ⟨x.2, hx, (h x (List.mem_iff_getElem?.2 ⟨i, hx⟩)).has, ((h x (List.mem_iff_getElem?.2 ⟨i, hx⟩)).ren).symm⟩⟩

/-! ### The first one of some -/
def fstN (p : Nat → Bool) : Nat → Nat
  | 0 => 0
  | n + 1 => bif Nat.blt (fstN p n) n then fstN p n else bif p n then n else n + 1
theorem fst_none {p : Nat → Bool} : ∀ {n : Nat}, (∀ j, j < n → p j = false) → fstN p n = n
  | 0, _ => rfl
  | n + 1, h => by
    have h1 : Nat.blt n n = false := by cases e : Nat.blt n n with | false => rfl | true => simp [Nat.blt_eq] at e
    have h2 : fstN p n = n := fst_none fun j hj => h j (by omega)
    simp [fstN, h2, h n (by omega), h1]
theorem fst_at {p : Nat → Bool} : ∀ {n i : Nat}, i < n → p i = true → (∀ j, j < i → p j = false) → fstN p n = i
  | 0, i, hi, _, _ => by omega
  | n + 1, i, hi, hp, h => by
    by_cases e : i = n
    · subst e
      have h1 : Nat.blt i i = false := by cases e : Nat.blt i i with | false => rfl | true => simp [Nat.blt_eq] at e
      simp [fstN, fst_none h, hp, h1]
    · have := fst_at (n := n) (by omega) hp h
      have h2 : Nat.blt i n = true := by simp [Nat.blt_eq]; omega
      simp [fstN, this, h2]
theorem fst_spec (p : Nat → Bool) : ∀ n : Nat, (fstN p n = n ∧ ∀ j, j < n → p j = false) ∨ (fstN p n < n ∧ p (fstN p n) = true ∧ ∀ j, j < fstN p n → p j = false)
  | 0 => .inl ⟨rfl, fun j hj => absurd hj (Nat.not_lt_zero j)⟩
  | n + 1 => by
    rcases fst_spec p n with ⟨h1, h2⟩ | ⟨h1, h2, h3⟩
    · cases hp : p n with
      | true =>
        have := fst_at (n := n + 1) (Nat.lt_succ_self n) hp h2
        rw [this]; exact .inr ⟨Nat.lt_succ_self n, hp, h2⟩
      | false =>
        have : ∀ j, j < n + 1 → p j = false := fun j hj => by
          rcases Nat.lt_or_ge j n with h | h
          · exact h2 j h
          · have : j = n := by omega
            subst this; exact hp
        exact .inl ⟨fst_none this, this⟩
    · have := fst_at (n := n + 1) (by omega) h2 h3
      rw [this]; exact .inr ⟨by omega, h2, h3⟩

/-! ### Texts of bytes -/
theorem foldl_push : ∀ (l : List Int) (r : ByteArray), (l.foldl (fun r n => r.push (UInt8.ofNat n.toNat)) r).data.toList = r.data.toList ++ l.map fun n => UInt8.ofNat n.toNat
  | [], r => by simp
  | n :: l, r => by
    rw [List.foldl_cons, foldl_push l]
    simp [ByteArray.push]
theorem mkStr_data (n : Nat) (f : Nat → AV) : (mkStr n f).data.toList = (List.range n).map fun i => UInt8.ofNat (iv (f i)).toNat := by
  unfold mkStr
  rw [foldl_push]
  simp [Function.comp_def]
theorem mkStr_congr {n : Nat} {f g : Nat → AV} (h : ∀ i, i < n → iv (f i) = iv (g i)) : mkStr n f = mkStr n g := by
  unfold mkStr
  congr 1
  apply List.map_congr_left
  intro i hi
  exact h i (List.mem_range.1 hi)
theorem mkStr_size (n : Nat) (f : Nat → AV) : (mkStr n f).size = n := by
  have := congrArg List.length (mkStr_data n f)
  simp only [List.length_map, List.length_range, Array.length_toList] at this
  exact this
theorem str_beq_self (s : ByteArray) : (s.toList == s.toList) = true := by simp
end Go.Eng
