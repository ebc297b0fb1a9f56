/- The engine, part 14: renaming, weaker states, code with loops. -/
import Derived.Test.YtbknbkbimhjlnaaEngM
import Derived.LoopN
set_option linter.unusedSimpArgs false
set_option linter.unusedVariables false
namespace Go.Eng

mutual
def AV.ren (π : Nat → Nat) : AV → AV
  | .ptr n off => .ptr (π n) off
  | .pe n off i => .pe (π n) off i
  | .vp n sz i off => .vp (π n) sz i off
  | .rp cs => .rp (renL π cs)
  | .rs sz n full f => .rs sz n full fun i => (f i).ren π
  | .vs n => .vs (π n)
  | .mp n => .mp (π n)
  | .fn f cap => .fn f (renL π cap)
  | .agg cs => .agg (renL π cs)
  | .arr n f => .arr n fun i => (f i).ren π
  | .tup vs => .tup (renL π vs)
  | .it n => .it (π n)
  | .whn cs v => .whn cs (v.ren π)
  | .int k n => .int k n
  | .bool b => .bool b
  | .str s => .str s
  | .nilp => .nilp
  | .nils => .nils
  | .nilm => .nilm
  | .nilf => .nilf
def renL (π : Nat → Nat) : List AV → List AV
  | [] => []
  | v :: vs => v.ren π :: renL π vs
end

theorem renL_map (π : Nat → Nat) (vs : List AV) : renL π vs = vs.map (AV.ren π) := by
  induction vs with
  | nil => simp [renL]
  | cons v vs ih => simp [renL, ih]

theorem ren_cells (π : Nat → Nat) (v : AV) : (v.ren π).cells = renL π v.cells := by
  cases v <;> simp [AV.ren, AV.cells, renL]

section
variable {ρ ρ' : Env} {π : Nat → Nat} (hπ : ∀ n, ρ' n = ρ (π n)) {ro : Nat → Prop} {w : World}
include hπ
theorem VRel.unren {v : AV} {x : Value} (h : VRel ρ ro w (v.ren π) x) : VRel ρ' ro w v x := by
  have key : ∀ {u : AV} {x : Value}, VRel ρ ro w u x → ∀ v, u = AV.ren π v → VRel ρ' ro w v x := by
    intro u x h
    refine VRel.rec (motive_1 := fun u x _ => ∀ v, u = AV.ren π v → VRel ρ' ro w v x) (motive_2 := fun us xs _ => ∀ vs, us = renL π vs → LRel ρ' ro w vs xs) (motive_3 := fun us xs _ => ∀ vs, us = renL π vs → CRel ρ' ro w vs xs)
      ?_ ?_ ?_ ?_ ?_ ?_ ?_ ?_ ?_ ?_ ?_ ?_ ?_ ?_ ?_ ?_ ?_ ?_ ?_ ?_ ?_ ?_ ?_ ?_ ?_ h
    · intro k n v e; cases v <;> simp only [AV.ren, reduceCtorEq] at e; injection e with e1 e2; subst e1; subst e2; exact .int _ _
    · intro b v e; cases v <;> simp only [AV.ren, reduceCtorEq] at e; injection e with e1; subst e1; exact .bool _
    · intro b v e; cases v <;> simp only [AV.ren, reduceCtorEq] at e; injection e with e1; subst e1; exact .str _
    · intro v e; cases v <;> simp only [AV.ren, reduceCtorEq] at e; exact .nilp
    · intro n off b hb v e; cases v <;> simp only [AV.ren, reduceCtorEq] at e; injection e with e1 e2; subst e1; subst e2; exact .ptr _ _ b (by rw [hπ]; exact hb)
    · intro n off b i hb v e; cases v <;> simp only [AV.ren, reduceCtorEq] at e; injection e with e1 e2 e3; subst e1; subst e2; subst e3; exact .pe _ _ b _ (by rw [hπ]; exact hb)
    · intro n sz off b l c i hb v e; cases v <;> simp only [AV.ren, reduceCtorEq] at e; injection e with e1 e2 e3 e4; subst e1; subst e2; subst e3; subst e4; exact .vp _ _ _ b l c _ (by rw [hπ]; exact hb)
    · intro cs a us h1 h2 h3 _ ih v e; cases v <;> simp only [AV.ren, reduceCtorEq] at e; injection e with e1; exact .rp _ a us h1 h2 h3 (ih _ e1)
    · intro sz n cap full f a vals h1 h2 h3 h4 h5 _ ih v e
      cases v <;> simp only [AV.ren, reduceCtorEq] at e
      injection e with e1 e2 e3 e4
      subst e1; subst e2; subst e3; subst e4
      exact .rs _ _ cap _ _ a vals h1 h2 h3 h4 h5 fun i hi => ih i hi _ (ren_cells π _)
    · intro n x hx hv v e; cases v <;> simp only [AV.ren, reduceCtorEq] at e; injection e with e1; subst e1; exact .vs _ x (by rw [hπ]; exact hx) hv
    · intro v e; cases v <;> simp only [AV.ren, reduceCtorEq] at e; exact .nils
    · intro n r hr v e; cases v <;> simp only [AV.ren, reduceCtorEq] at e; injection e with e1; subst e1; exact .mp _ r (by rw [hπ]; exact hr)
    · intro v e; cases v <;> simp only [AV.ren, reduceCtorEq] at e; exact .nilm
    · intro f cap us _ ih v e; cases v <;> simp only [AV.ren, reduceCtorEq] at e; injection e with e1 e2; subst e1; exact .fn _ _ us (ih _ e2)
    · intro v e; cases v <;> simp only [AV.ren, reduceCtorEq] at e; exact .nilf
    · intro cs us _ ih v e; cases v <;> simp only [AV.ren, reduceCtorEq] at e; injection e with e1; exact .agg _ us (ih _ e1)
    · intro cs us _ ih v e; cases v <;> simp only [AV.ren, reduceCtorEq] at e; injection e with e1; exact .tup _ us (ih _ e1)
    · intro n b hb v e; cases v <;> simp only [AV.ren, reduceCtorEq] at e; injection e with e1; subst e1; exact .it _ b (by rw [hπ]; exact hb)
    · intro cs v' x hc _ ih v e; cases v <;> simp only [AV.ren, reduceCtorEq] at e; injection e with e1 e2; subst e1; exact .whnT _ _ x hc (ih _ e2)
    · intro cs v' hc v e; cases v <;> simp only [AV.ren, reduceCtorEq] at e; injection e with e1 e2; subst e1; exact .whnF _ _ hc
    · intro vs e; cases vs <;> simp only [renL, reduceCtorEq] at e; exact .nil
    · intro v vs u us _ _ ih it vs' e; cases vs' <;> simp only [renL, reduceCtorEq] at e; injection e with e1 e2; exact .cons _ _ u us (ih _ e1) (it _ e2)
    · intro vs e; cases vs <;> simp only [renL, reduceCtorEq] at e; exact .nil
    · intro v vs u us _ h1 _ ih it vs' e; cases vs' <;> simp only [renL, reduceCtorEq] at e; injection e with e1 e2; exact .cons _ _ u us (ih _ e1) h1 (it _ e2)
    · intro n f vs xs us hl _ h1 _ ih it vs' e
      cases vs' with
      | nil => simp [renL] at e
      | cons v' vs' =>
        simp only [renL] at e
        injection e with e1 e2
        cases v' <;> simp only [AV.ren, reduceCtorEq] at e1
        injection e1 with e3 e4
        subst e3; subst e4
        exact .arr _ _ _ xs us hl (fun i u hu => ih i u hu _ rfl) h1 (it _ e2)
  exact key h v rfl

theorem CRel.unren : ∀ {vs : List AV} {xs : List Value}, CRel ρ ro w (renL π vs) xs → CRel ρ' ro w vs xs := by
  intro vs xs h
  have : VRel ρ ro w ((AV.agg vs).ren π) (.agg xs.toArray) := by simp only [AV.ren]; exact .agg _ xs h
  have := VRel.unren hπ this
  have h2 : ∀ y, VRel ρ' ro w (.agg vs) y → y = .agg xs.toArray → CRel ρ' ro w vs xs := by
    intro y hy e
    cases hy with
    | agg _ us' hq => injection e with e; have e2 := congrArg Array.toList e; simp at e2; exact e2 ▸ hq
  exact h2 _ this rfl

theorem LRel.unren : ∀ {vs : List AV} {xs : List Value}, LRel ρ ro w (renL π vs) xs → LRel ρ' ro w vs xs := by
  intro vs
  induction vs with
  | nil => intro xs h; simp only [renL] at h; cases h; exact .nil
  | cons v vs ih => intro xs h; simp only [renL] at h; cases h with | cons _ _ u us h1 h2 => exact .cons _ _ u us (VRel.unren hπ h1) (ih h2)
end

/-! ### Weaker states -/
/-- Names below B stay; then come those in the list. -/
def pi (B nx : Nat) (l : List Nat) (n : Nat) : Nat := bif Nat.blt n B then n else (l[n - B]?).getD (n + nx)

/-- A content, under other names, and pointwise. -/
def CW (π : Nat → Nat) : Cont → Cont → Prop
  | .cell v', .cell v => v = v'.ren π
  | .arr k f', .arr k' f => k' = k ∧ ∀ i, i < k → f i = (f' i).ren π
  | .vec sz e k f', .vec sz' e' k' f => sz' = sz ∧ e' = e ∧ k' = k ∧ ∀ i, i < k → f i = (f' i).ren π
  | .map es', .map es => es.length = es'.length ∧ ∀ (i : Nat) (x' : List Int × AV), es'[i]? = some x' → es[i]? = some (x'.1, x'.2.ren π)
  | .dead, _ => True
  | _, _ => False

theorem CW.csim {mine : Nat → Prop} {ρ ρ' : Env} {π : Nat → Nat} (hπ : ∀ n, ρ' n = ρ (π n)) {ro : Nat → Prop} {w : World} {n o : Nat} {c' c : Cont} (hc : CW π c' c) (h : CSim mine ρ ro w (π n) o c) : CSim mine ρ' ro w n o c' := by
  cases c' <;> cases c <;> simp only [CW] at hc <;> try exact hc.elim
  case cell.cell v' v =>
    obtain ⟨b, cs, ty, u, h1, h2, h3, h4, h5, h6, h7⟩ := h
    exact ⟨b, cs, ty, u, by rw [hπ]; exact h1, h2, h3, h4, h5, h6, VRel.unren hπ (hc ▸ h7)⟩
  case arr.arr k f' k' f =>
    obtain ⟨rfl, hf⟩ := hc
    obtain ⟨b, cs, ty, h1, h2, h3, h4, h5⟩ := h
    refine ⟨b, cs, ty, by rw [hπ]; exact h1, h2, h3, h4, fun i hi => ?_⟩
    obtain ⟨u, a1, a2, a3⟩ := h5 i hi
    exact ⟨u, a1, a2, VRel.unren hπ (hf i hi ▸ a3)⟩
  case vec.vec sz e k f' sz' e' k' f =>
    obtain ⟨rfl, rfl, rfl, hf⟩ := hc
    obtain ⟨ho, x, xs, h1, h2, h3, h4, h5⟩ := h
    refine ⟨ho, x, xs, by rw [hπ]; exact h1, h2, h3, h4, fun i hi => ?_⟩
    have := h5 i hi
    rw [hf i hi, ren_cells] at this
    exact CRel.unren hπ this
  case map.map es' es =>
    obtain ⟨hl, he⟩ := hc
    obtain ⟨ho, r, ms, clock, h1, h2, h3, h4, h5, h6⟩ := h
    refine ⟨ho, r, ms, clock, by rw [hπ]; exact h1, h2, h3, h4, by rw [h5, hl], fun i hi e hei => ?_⟩
    have := h6 i hi _ (he i e hei)
    exact ⟨this.key, VRel.unren hπ this.val⟩
  all_goals trivial

structure Keep (B : Nat) (mine : Nat → Prop) (ρ ρ' : Env) (ro : Nat → Prop) (w w' : World) : Prop where
  env : ∀ n v, n < B → ρ n = some v → ρ' n = some v
  heap : ∀ b, ro b → w'.heap[b]? = w.heap[b]?
  step : Step mine w w'

theorem Keep.refl (B : Nat) (mine : Nat → Prop) (ρ : Env) (ro : Nat → Prop) (w : World) : Keep B mine ρ ρ ro w w := ⟨fun _ _ _ h => h, fun _ _ => rfl, .refl _ _⟩
theorem Keep.trans {B : Nat} {mine : Nat → Prop} {ρ ρ' ρ'' : Env} {ro : Nat → Prop} {w w' w'' : World} (g : Keep B mine ρ ρ' ro w w') (k : Keep B mine ρ' ρ'' ro w' w'') : Keep B mine ρ ρ'' ro w w'' :=
  ⟨fun n v hn h => k.env n v hn (g.env n v hn h), fun b h => (k.heap b h).trans (g.heap b h), g.step.trans k.step⟩
theorem Keep.of {B : Nat} {mine : Nat → Prop} {ρ ρ' : Env} {ro : Nat → Prop} {w w' : World} (g : Grow ρ ρ' ro ro w w') (s : Step mine w w') : Keep B mine ρ ρ' ro w w' := ⟨fun n v _ h => g.env n v h, g.heap, s⟩

structure Holds (mine : Nat → Prop) (ρ : Env) (ro : Nat → Prop) (s : St) (a : Act) (w : World) : Prop where
  ok : StOK mine ρ ro s.h s.N a w
  fresh : ∀ n, s.nx ≤ n → ρ n = none
  pos : 0 < s.nx

/-- A state says less than another one; its names are those in the list. -/
structure WeakL (B : Nat) (l : List Nat) (s s' : St) : Prop where
  slots : s'.N = s.N
  le : 0 < B ∧ B ≤ s.nx
  nx : s'.nx = B + l.length
  nodup : l.Nodup
  mem : ∀ x ∈ l, B ≤ x ∧ x < s.nx
  cont : ∀ n o c', hget s'.h n o = some c' → ∃ c, hget s.h (pi B s.nx l n) o = some c ∧ CW (pi B s.nx l) c' c
def Weak (B : Nat) (s s' : St) : Prop := ∃ l, WeakL B l s s'

theorem pi_lt {B nx : Nat} {l : List Nat} {n : Nat} (h : n < B) : pi B nx l n = n := by
  have : Nat.blt n B = true := by simpa [Nat.blt_eq] using h
  simp [pi, this]
theorem pi_ge {B nx : Nat} {l : List Nat} {n : Nat} (h : ¬ n < B) : pi B nx l n = (l[n - B]?).getD (n + nx) := by
  have : Nat.blt n B = false := by
    cases e : Nat.blt n B with
    | false => rfl
    | true => exact absurd (by simpa [Nat.blt_eq] using e) h
  simp [pi, this]

theorem CW.live {π : Nat → Nat} {c' c : Cont} (h : CW π c' c) (hl : c'.live) : c.live ∧ c.wd = c'.wd := by
  cases c' with
  | dead => exact hl.elim
  | cell v => cases c <;> first | exact ⟨trivial, rfl⟩ | exact False.elim h
  | arr k f => cases c <;> first | exact ⟨trivial, h.1⟩ | exact False.elim h
  | vec sz e k f => cases c <;> first | exact ⟨trivial, rfl⟩ | exact False.elim h
  | map es => cases c <;> first | exact ⟨trivial, rfl⟩ | exact False.elim h

theorem pi_inj {B nx : Nat} {l : List Nat} (_hB : B ≤ nx) (hn : l.Nodup) (hl : ∀ x ∈ l, B ≤ x ∧ x < nx) {n m : Nat} (e : pi B nx l n = pi B nx l m) : n = m := by
  have h : ∀ n, (n < B ∧ pi B nx l n = n) ∨ (B ≤ n ∧ ∃ h : n - B < l.length, pi B nx l n = l[n - B]) ∨ (B ≤ n ∧ l.length ≤ n - B ∧ pi B nx l n = n + nx) := by
    intro n
    by_cases h1 : n < B
    · exact .inl ⟨h1, pi_lt h1⟩
    · by_cases h2 : n - B < l.length
      · exact .inr (.inl ⟨by omega, h2, by rw [pi_ge h1]; simp [h2]⟩)
      · exact .inr (.inr ⟨by omega, by omega, by rw [pi_ge h1]; simp [h2]⟩)
  rcases h n with ⟨a1, a2⟩ | ⟨a1, a2, a3⟩ | ⟨a1, a2, a3⟩ <;> rcases h m with ⟨b1, b2⟩ | ⟨b1, b2, b3⟩ | ⟨b1, b2, b3⟩
  · omega
  · have := hl _ (List.getElem_mem b2); omega
  · omega
  · have := hl _ (List.getElem_mem a2); omega
  · have e2 : l[n - B] = l[m - B] := by rw [← a3, ← b3]; exact e
    rcases Nat.lt_trichotomy (n - B) (m - B) with hlt | heq | hgt
    · exact absurd e2 (List.pairwise_iff_getElem.1 hn _ _ a2 b2 hlt)
    · omega
    · exact absurd e2.symm (List.pairwise_iff_getElem.1 hn _ _ b2 a2 hgt)
  · have := hl _ (List.getElem_mem a2); omega
  · omega
  · have := hl _ (List.getElem_mem b2); omega
  · omega

theorem WeakL.holds {B : Nat} {l : List Nat} {s s' : St} (k : WeakL B l s s') {mine : Nat → Prop} {ρ : Env} {ro : Nat → Prop} {a : Act} {w : World} (h : Holds mine ρ ro s a w) : Keep B mine ρ (fun n => ρ (pi B s.nx l n)) ro w w ∧ Holds mine (fun n => ρ (pi B s.nx l n)) ro s' a w := by
  have e := k.nx
  have hnd := k.nodup
  have hl := k.mem
  have hc := k.cont
  obtain ⟨hB0, hB⟩ := k.le
  refine ⟨⟨fun n v hn hv => by show ρ (pi B s.nx l n) = _; rw [pi_lt hn]; exact hv, fun _ _ => rfl, .refl _ _⟩, ⟨⟨?_, ?_, k.slots ▸ h.ok.size, h.ok.defers⟩, fun n hn => ?_, by omega⟩⟩
  · have pos : ∀ n, 0 < n → 0 < pi B s.nx l n := by
      intro n hn
      rcases Nat.eq_zero_or_pos (pi B s.nx l n) with h0 | h0
      · have : pi B s.nx l 0 = 0 := pi_lt hB0
        have := pi_inj hB hnd hl (h0.trans this.symm)
        omega
      · exact h0
    have lv : ∀ n, live s'.h n → live s.h (pi B s.nx l n) := by
      rintro n ⟨o, c', h1, h2⟩
      obtain ⟨c, h3, h4⟩ := hc n o c' h1
      exact ⟨o, c, h3, (h4.live h2).1⟩
    refine ⟨fun n o c' hn hg => ?_, fun n m x y b hn hm hne hln hlm hx hy hbx hby => ?_, h.ok.sim.new, ?_, fun n o o' c1 c2 hn h1 h2 hl1 hl2 hlt => ?_⟩
    · obtain ⟨c, h3, h4⟩ := hc n o c' hg
      exact h4.csim (ρ := ρ) (ρ' := fun n => ρ (pi B s.nx l n)) (fun _ => rfl) (h.ok.sim.cont _ _ _ (pos n hn) h3)
    · exact h.ok.sim.dist _ _ x y b (pos n hn) (pos m hm) (fun e => hne (pi_inj hB hnd hl e)) (lv n hln) (lv m hlm) hx hy hbx hby
    · show ρ (pi B s.nx l 0) = none
      rw [pi_lt hB0]; exact h.ok.sim.zero
    · obtain ⟨d1, h3, h4⟩ := hc n o c1 h1
      obtain ⟨d2, h5, h6⟩ := hc n o' c2 h2
      have := h.ok.sim.lay _ o o' d1 d2 (pos n hn) h3 h5 (h4.live hl1).1 (h6.live hl2).1 hlt
      rw [← (h4.live hl1).2]; exact this
  · intro t v ht
    obtain ⟨c, h3, h4⟩ := hc 0 t _ ht
    rw [pi_lt hB0] at h3
    cases c <;> simp only [CW] at h4 <;> try exact h4.elim
    subst h4
    obtain ⟨u, h5, h6⟩ := h.ok.slots t _ h3
    exact ⟨u, h5, VRel.unren (ρ := ρ) (ρ' := fun n => ρ (pi B s.nx l n)) (fun _ => rfl) h6⟩
  · show ρ (pi B s.nx l n) = none
    refine h.fresh _ ?_
    have h1 : ¬ n < B := by omega
    have h2 : ¬ n - B < l.length := by omega
    rw [pi_ge h1]; simp [h2]

theorem Weak.holds {B : Nat} {s s' : St} (k : Weak B s s') {mine : Nat → Prop} {ρ : Env} {ro : Nat → Prop} {a : Act} {w : World} (h : Holds mine ρ ro s a w) : ∃ ρ', Keep B mine ρ ρ' ro w w ∧ Holds mine ρ' ro s' a w := by
  obtain ⟨l, k⟩ := k
  exact ⟨_, k.holds h⟩
end Go.Eng
