/- The engine, part 14: renaming, weaker states, code with loops. -/
import Derived.Test.YtodnecfgiimclaaEngM
import Derived.LoopN
set_option linter.unusedSimpArgs false
set_option linter.unusedVariables false
namespace Go.Eng
mutual
def AV.ren (π : Nat → Nat) : AV → AV
 | .ptr n off => .ptr (π n) off
 | .pe n off i => .pe (π n) off i
 | .vp n sz i off => .vp (π n) sz i off
 | .rp cs => .rp (renL π cs)
 | .rs sz n full f => .rs sz n full fun i => (f i).ren π
 | .vs n => .vs (π n)
 | .sub m sz lo k => .sub (π m) sz lo k
 | .mp n => .mp (π n)
 | .fn f cap => .fn f (renL π cap)
 | .agg cs => .agg (renL π cs)
 | .arr n f => .arr n fun i => (f i).ren π
 | .tup vs => .tup (renL π vs)
 | .it n => .it (π n)
 | .whn cs v => .whn cs (v.ren π)
 | .int k n => .int k n
 | .bool b => .bool b
 | .str s => .str s
 | .nilp => .nilp
 | .nils => .nils
 | .nilm => .nilm
 | .nilf => .nilf
def renL (π : Nat → Nat) : List AV → List AV
 | [] => []
 | v :: vs => v.ren π :: renL π vs
end
theorem renL_map (π : Nat → Nat) (vs : List AV) : renL π vs = vs.map (AV.ren π) := by
 induction vs with
 | nil => simp [renL]
 | cons v vs ih => simp [renL, ih]
theorem ren_cells (π : Nat → Nat) (v : AV) : (v.ren π).cells = renL π v.cells := by
 cases v <;> simp [AV.ren, AV.cells, renL]
section
variable {ρ ρ' : Env} {π : Nat → Nat} (hπ : ∀ n, ρ' n = ρ (π n)) {ro : Nat → Prop} {w : World}
include hπ
theorem VRel.unren {v : AV} {x : Value} (h : VRel ρ ro w (v.ren π) x) : VRel ρ' ro w v x := by
 have key : ∀ {u : AV} {x : Value}, VRel ρ ro w u x → ∀ v, u = AV.ren π v → VRel ρ' ro w v x := by
  intro u x h
  refine VRel.rec (motive_1 := fun u x _ => ∀ v, u = AV.ren π v → VRel ρ' ro w v x) (motive_2 := fun us xs _ => ∀ vs, us = renL π vs → LRel ρ' ro w vs xs) (motive_3 := fun us xs _ => ∀ vs, us = renL π vs → CRel ρ' ro w vs xs)
   ?_ ?_ ?_ ?_ ?_ ?_ ?_ ?_ ?_ ?_ ?_ ?_ ?_ ?_ ?_ ?_ ?_ ?_ ?_ ?_ ?_ ?_ ?_ ?_ ?_ ?_ h
  ·intro k n v e; cases v <;> simp only [AV.ren, reduceCtorEq] at e; injection e with e1 e2; subst e1; subst e2; exact .int _ _
  ·intro b v e; cases v <;> simp only [AV.ren, reduceCtorEq] at e; injection e with e1; subst e1; exact .bool _
  ·intro b v e; cases v <;> simp only [AV.ren, reduceCtorEq] at e; injection e with e1; subst e1; exact .str _
  ·intro v e; cases v <;> simp only [AV.ren, reduceCtorEq] at e; exact .nilp
  ·intro n off b hb v e; cases v <;> simp only [AV.ren, reduceCtorEq] at e; injection e with e1 e2; subst e1; subst e2; exact .ptr _ _ b (by rw [hπ]; exact hb)
  ·intro n off b i hb v e; cases v <;> simp only [AV.ren, reduceCtorEq] at e; injection e with e1 e2 e3; subst e1; subst e2; subst e3; exact .pe _ _ b _ (by rw [hπ]; exact hb)
  ·intro n sz off b l c i hb v e; cases v <;> simp only [AV.ren, reduceCtorEq] at e; injection e with e1 e2 e3 e4; subst e1; subst e2; subst e3; subst e4; exact .vp _ _ _ b l c _ (by rw [hπ]; exact hb)
  ·intro cs a us h1 h2 h3 _ ih v e; cases v <;> simp only [AV.ren, reduceCtorEq] at e; injection e with e1; exact .rp _ a us h1 h2 h3 (ih _ e1)
  ·intro sz n cap full f a vals h1 h2 h3 h4 h5 _ ih v e
   cases v <;> simp only [AV.ren, reduceCtorEq] at e
   injection e with e1 e2 e3 e4
   subst e1; subst e2; subst e3; subst e4
   exact .rs _ _ cap _ _ a vals h1 h2 h3 h4 h5 fun i hi => ih i hi _ (ren_cells π _)
  ·intro n x hx hv v e; cases v <;> simp only [AV.ren, reduceCtorEq] at e; injection e with e1; subst e1; exact .vs _ x (by rw [hπ]; exact hx) hv
  ·intro m sz lo k cap a0 a l c h hl hn hm ha v e; cases v <;> simp only [AV.ren, reduceCtorEq] at e; injection e with e1 e2 e3 e4; subst e1; subst e2; subst e3; subst e4; exact .sub _ _ _ _ cap a0 a l c (by rw [hπ]; exact h) hl hn hm ha
  ·intro v e; cases v <;> simp only [AV.ren, reduceCtorEq] at e; exact .nils
  ·intro n r hr v e; cases v <;> simp only [AV.ren, reduceCtorEq] at e; injection e with e1; subst e1; exact .mp _ r (by rw [hπ]; exact hr)
  ·intro v e; cases v <;> simp only [AV.ren, reduceCtorEq] at e; exact .nilm
  ·intro f cap us _ ih v e; cases v <;> simp only [AV.ren, reduceCtorEq] at e; injection e with e1 e2; subst e1; exact .fn _ _ us (ih _ e2)
  ·intro v e; cases v <;> simp only [AV.ren, reduceCtorEq] at e; exact .nilf
  ·intro cs us _ ih v e; cases v <;> simp only [AV.ren, reduceCtorEq] at e; injection e with e1; exact .agg _ us (ih _ e1)
  ·intro cs us _ ih v e; cases v <;> simp only [AV.ren, reduceCtorEq] at e; injection e with e1; exact .tup _ us (ih _ e1)
  ·intro n b hb v e; cases v <;> simp only [AV.ren, reduceCtorEq] at e; injection e with e1; subst e1; exact .it _ b (by rw [hπ]; exact hb)
  ·intro cs v' x hc _ ih v e; cases v <;> simp only [AV.ren, reduceCtorEq] at e; injection e with e1 e2; subst e1; exact .whnT _ _ x hc (ih _ e2)
  ·intro cs v' hc v e; cases v <;> simp only [AV.ren, reduceCtorEq] at e; injection e with e1 e2; subst e1; exact .whnF _ _ hc
  ·intro vs e; cases vs <;> simp only [renL, reduceCtorEq] at e; exact .nil
  ·intro v vs u us _ _ ih it vs' e; cases vs' <;> simp only [renL, reduceCtorEq] at e; injection e with e1 e2; exact .cons _ _ u us (ih _ e1) (it _ e2)
  ·intro vs e; cases vs <;> simp only [renL, reduceCtorEq] at e; exact .nil
  ·intro v vs u us _ h1 _ ih it vs' e; cases vs' <;> simp only [renL, reduceCtorEq] at e; injection e with e1 e2; exact .cons _ _ u us (ih _ e1) h1 (it _ e2)
  ·intro n f vs xs us hl _ h1 _ ih it vs' e
   cases vs' with
   | nil => simp [renL] at e
   | cons v' vs' =>
     simp only [renL] at e
     injection e with e1 e2
     cases v' <;> simp only [AV.ren, reduceCtorEq] at e1
     injection e1 with e3 e4
     subst e3; subst e4
     exact .arr _ _ _ xs us hl (fun i u hu => ih i u hu _ rfl) h1 (it _ e2)
 exact key h v rfl
theorem CRel.unren : ∀ {vs : List AV} {xs : List Value}, CRel ρ ro w (renL π vs) xs → CRel ρ' ro w vs xs := by
 intro vs xs h
 have : VRel ρ ro w ((AV.agg vs).ren π) (.agg xs.toArray) := by simp only [AV.ren]; exact .agg _ xs h
 have := VRel.unren hπ this
 have h2 : ∀ y, VRel ρ' ro w (.agg vs) y → y = .agg xs.toArray → CRel ρ' ro w vs xs := by
  intro y hy e
  cases hy with
  | agg _ us' hq => injection e with e; have e2 := congrArg Array.toList e; simp at e2; exact e2 ▸ hq
 exact h2 _ this rfl
end
def pi (B nx : Nat) (l : List Nat) (n : Nat) : Nat := bif Nat.blt n B then n else (l[n - B]?).getD (n + nx)
def CW (π : Nat → Nat) : Cont → Cont → Prop
 | .cell v', .cell v => v = v'.ren π
 | .arr k f', .arr k' f => k' = k ∧ ∀ i, i < k → f i = (f' i).ren π
 | .vec sz e k f', .vec sz' e' k' f => sz' = sz ∧ e' = e ∧ k' = k ∧ ∀ i, i < k → f i = (f' i).ren π
 | .map ar' es', .map ar es => ar' = ar ∧ es.length = es'.length ∧ ∀ (i : Nat) (x' : List Int × AV), es'[i]? = some x' → es[i]? = some (x'.1, x'.2.ren π)
 | .maps ar' es' bs' ck', .maps ar es bs ck => ((ar' = ar ∧ bs' = bs) ∧ ck' = ck) ∧ es.length = es'.length ∧ ∀ (i : Nat) (x' : List Int × AV), es'[i]? = some x' → es[i]? = some (x'.1, x'.2.ren π)
 | .iter m' s' q' c' _ _, .iter m s q c _ _ => m = π m' ∧ s' = s ∧ q' = q ∧ c' = c
 | .top, .top => True
 | .dead, _ => True
 | _, _ => False
theorem CW.csim {mine : Nat → Prop} {ρ ρ' : Env} {π : Nat → Nat} (hπ : ∀ n, ρ' n = ρ (π n)) {ro : Nat → Prop} {w : World} {n o : Nat} {c' c : Cont} (hc : CW π c' c) (h : CSim mine ρ ro w (π n) o c) : CSim mine ρ' ro w n o c' := by
 cases c' <;> cases c <;> simp only [CW] at hc <;> try exact hc.elim
 case cell.cell v' v =>
  obtain ⟨b, cs, ty, u, h1, h2, h3, h4, h5, h6, h7⟩ := h
  exact ⟨b, cs, ty, u, by rw [hπ]; exact h1, h2, h3, h4, h5, h6, VRel.unren hπ (hc ▸ h7)⟩
 case arr.arr k f' k' f =>
  obtain ⟨rfl, hf⟩ := hc
  obtain ⟨b, cs, ty, h1, h2, h3, h4, h5⟩ := h
  refine ⟨b, cs, ty, by rw [hπ]; exact h1, h2, h3, h4, fun i hi => ?_⟩
  obtain ⟨u, a1, a2, a3⟩ := h5 i hi
  exact ⟨u, a1, a2, VRel.unren hπ (hf i hi ▸ a3)⟩
 case vec.vec sz e k f' sz' e' k' f =>
  obtain ⟨rfl, rfl, rfl, hf⟩ := hc
  obtain ⟨ho, x, xs, h1, h2, h3, h4, h5⟩ := h
  refine ⟨ho, x, xs, by rw [hπ]; exact h1, h2, h3, h4, fun i hi => ?_⟩
  have := h5 i hi
  rw [hf i hi, ren_cells] at this
  exact CRel.unren hπ this
 case map.map ar' es' ar es =>
  obtain ⟨rfl, hl, he⟩ := hc
  obtain ⟨ho, r, ms, clock, h1, h2, h3, h4, h5, h6⟩ := h
  refine ⟨ho, r, ms, clock, by rw [hπ]; exact h1, h2, h3, h4, ⟨by rw [h5.1, hl], h5.2⟩, fun i hi e hei => ?_⟩
  have := h6 i hi _ (he i e hei)
  exact ⟨this.key, VRel.unren hπ this.val⟩
 case maps.maps ar' es' bs' ck' ar es bs ck =>
  obtain ⟨⟨⟨rfl, rfl⟩, rfl⟩, hl, he⟩ := hc
  obtain ⟨ho, r, ms, h1, h2, h3, h4, h5, h6⟩ := h
  refine ⟨ho, r, ms, by rw [hπ]; exact h1, h2, h3, h4, ⟨by rw [h5.1, hl], h5.2⟩, fun i hi e hei => ?_⟩
  have := h6 i hi _ (he i e hei)
  exact ⟨this.key, VRel.unren hπ this.val⟩
 case iter.iter m' s' q' c' k' v' m s q c k v =>
  obtain ⟨rfl, rfl, rfl, rfl⟩ := hc
  obtain ⟨ho, b, r, h1, h2, h3, h4, h5⟩ := h
  exact ⟨ho, b, r, by rw [hπ]; exact h1, h2, h3, h4, by rw [hπ]; exact h5⟩
 case top.top =>
  obtain ⟨b, cs, ty, h1, h2, h3, h4, h5⟩ := h
  exact ⟨b, cs, ty, by rw [hπ]; exact h1, h2, h3, h4, h5⟩
 all_goals trivial
structure Keep (B : Nat) (mine : Nat → Prop) (ρ ρ' : Env) (ro ro' : Nat → Prop) (w w' : World) : Prop where
 env : ∀ n v, n < B → ρ n = some v → ρ' n = some v
 more : ∀ b, ro b → ro' b
 own : ∀ b, ro' b → ro b ∨ mine b
 heap : ∀ b, ro b → w'.heap[b]? = w.heap[b]?
 step : Step mine w w'
theorem Keep.refl (B : Nat) (mine : Nat → Prop) (ρ : Env) (ro : Nat → Prop) (w : World) : Keep B mine ρ ρ ro ro w w := ⟨fun _ _ _ h => h, fun _ h => h, fun _ h => .inl h, fun _ _ => rfl, .refl _ _⟩
theorem Keep.trans {B : Nat} {mine : Nat → Prop} {ρ ρ' ρ'' : Env} {ro ro' ro'' : Nat → Prop} {w w' w'' : World} (g : Keep B mine ρ ρ' ro ro' w w') (k : Keep B mine ρ' ρ'' ro' ro'' w' w'') : Keep B mine ρ ρ'' ro ro'' w w'' :=
 ⟨fun n v hn h => k.env n v hn (g.env n v hn h), fun b h => k.more b (g.more b h), fun b h => (k.own b h).elim (g.own b) .inr, fun b h => (k.heap b (g.more b h)).trans (g.heap b h), g.step.trans k.step⟩
theorem Keep.of {B : Nat} {mine : Nat → Prop} {ρ ρ' : Env} {ro ro' : Nat → Prop} {w w' : World} (g : GrowM mine ρ ρ' ro ro' w w') (s : Step mine w w') : Keep B mine ρ ρ' ro ro' w w' := ⟨fun n v _ h => g.g.env n v h, g.g.more, g.own, g.g.heap, s⟩
structure Holds (mine : Nat → Prop) (ρ : Env) (ro : Nat → Prop) (s : St) (a : Act) (w : World) : Prop where
 ok : StOK mine ρ ro s.h s.N a w
 fresh : ∀ n, s.nx ≤ n → ρ n = none
 pos : 0 < s.nx
structure WeakL (B : Nat) (l : List Nat) (s s' : St) : Prop where
 slots : s'.N = s.N
 le : 0 < B ∧ B ≤ s.nx
 nx : s'.nx = B + l.length
 nodup : l.Nodup
 mem : ∀ x ∈ l, B ≤ x ∧ x < s.nx
 cont : ∀ n o c', hget s'.h n o = some c' → ∃ c, hget s.h (pi B s.nx l n) o = some c ∧ CW (pi B s.nx l) c' c
def Weak (B : Nat) (s s' : St) : Prop := ∃ l, WeakL B l s s'
theorem pi_lt {B nx : Nat} {l : List Nat} {n : Nat} (h : n < B) : pi B nx l n = n := by
 have : Nat.blt n B = true := by simpa [Nat.blt_eq] using h
 simp [pi, this]
theorem pi_ge {B nx : Nat} {l : List Nat} {n : Nat} (h : ¬ n < B) : pi B nx l n = (l[n - B]?).getD (n + nx) := by
 have : Nat.blt n B = false := by
  cases e : Nat.blt n B with
  | false => rfl
  | true => exact absurd (by simpa [Nat.blt_eq] using e) h
 simp [pi, this]
theorem CW.live {π : Nat → Nat} {c' c : Cont} (h : CW π c' c) (hl : c'.live) : c.live ∧ c.wd = c'.wd := by
 cases c' with
 | dead => exact hl.elim
 | cell v => cases c <;> first | exact ⟨trivial, rfl⟩ | exact False.elim h
 | arr k f => cases c <;> first | exact ⟨trivial, h.1⟩ | exact False.elim h
 | vec sz e k f => cases c <;> first | exact ⟨trivial, rfl⟩ | exact False.elim h
 | map ar es => cases c <;> first | exact ⟨trivial, rfl⟩ | exact False.elim h
 | maps ar es bs ck => cases c <;> first | exact ⟨trivial, rfl⟩ | exact False.elim h
 | iter m since seen c0 k v => cases c <;> first | exact ⟨trivial, rfl⟩ | exact False.elim h
 | top => cases c <;> first | exact ⟨trivial, rfl⟩ | exact False.elim h
theorem pi_inj {B nx : Nat} {l : List Nat} (_hB : B ≤ nx) (hn : l.Nodup) (hl : ∀ x ∈ l, B ≤ x ∧ x < nx) {n m : Nat} (e : pi B nx l n = pi B nx l m) : n = m := by
 have h : ∀ n, (n < B ∧ pi B nx l n = n) ∨ (B ≤ n ∧ ∃ h : n - B < l.length, pi B nx l n = l[n - B]) ∨ (B ≤ n ∧ l.length ≤ n - B ∧ pi B nx l n = n + nx) := by
  intro n
  by_cases h1 : n < B
  ·exact .inl ⟨h1, pi_lt h1⟩
  ·by_cases h2 : n - B < l.length
   ·exact .inr (.inl ⟨by omega, h2, by rw [pi_ge h1]; simp [h2]⟩)
   ·exact .inr (.inr ⟨by omega, by omega, by rw [pi_ge h1]; simp [h2]⟩)
 rcases h n with ⟨a1, a2⟩ | ⟨a1, a2, a3⟩ | ⟨a1, a2, a3⟩ <;> rcases h m with ⟨b1, b2⟩ | ⟨b1, b2, b3⟩ | ⟨b1, b2, b3⟩
 ·omega
 ·have := hl _ (List.getElem_mem b2); omega
 ·omega
 ·have := hl _ (List.getElem_mem a2); omega
 ·have e2 : l[n - B] = l[m - B] := by rw [← a3, ← b3]; exact e
  rcases Nat.lt_trichotomy (n - B) (m - B) with hlt | heq | hgt
  ·exact absurd e2 (List.pairwise_iff_getElem.1 hn _ _ a2 b2 hlt)
  ·omega
  ·exact absurd e2.symm (List.pairwise_iff_getElem.1 hn _ _ b2 a2 hgt)
 ·have := hl _ (List.getElem_mem a2); omega
 ·omega
 ·have := hl _ (List.getElem_mem b2); omega
 ·omega
theorem WeakL.holds {B : Nat} {l : List Nat} {s s' : St} (k : WeakL B l s s') {mine : Nat → Prop} {ρ : Env} {ro : Nat → Prop} {a : Act} {w : World} (h : Holds mine ρ ro s a w) : Keep B mine ρ (fun n => ρ (pi B s.nx l n)) ro ro w w ∧ Holds mine (fun n => ρ (pi B s.nx l n)) ro s' a w := by
 have e := k.nx
 have hnd := k.nodup
 have hl := k.mem
 have hc := k.cont
 obtain ⟨hB0, hB⟩ := k.le
 refine ⟨⟨fun n v hn hv => by show ρ (pi B s.nx l n) = _; rw [pi_lt hn]; exact hv, fun _ h => h, fun _ h => .inl h, fun _ _ => rfl, .refl _ _⟩, ⟨⟨?_, ?_, k.slots ▸ h.ok.size, h.ok.defers⟩, fun n hn => ?_, by omega⟩⟩
 ·have pos : ∀ n, 0 < n → 0 < pi B s.nx l n := by
   intro n hn
   rcases Nat.eq_zero_or_pos (pi B s.nx l n) with h0 | h0
   ·have : pi B s.nx l 0 = 0 := pi_lt hB0
    have := pi_inj hB hnd hl (h0.trans this.symm)
    omega
   ·exact h0
  have lv : ∀ n, live s'.h n → live s.h (pi B s.nx l n) := by
   rintro n ⟨o, c', h1, h2⟩
   obtain ⟨c, h3, h4⟩ := hc n o c' h1
   exact ⟨o, c, h3, (h4.live h2).1⟩
  refine ⟨fun n o c' hn hg => ?_, fun n m x y b hn hm hne hln hlm hx hy hbx hby => ?_, h.ok.sim.new, ?_, fun n o o' c1 c2 hn h1 h2 hl1 hl2 hlt => ?_⟩
  ·obtain ⟨c, h3, h4⟩ := hc n o c' hg
   exact h4.csim (ρ := ρ) (ρ' := fun n => ρ (pi B s.nx l n)) (fun _ => rfl) (h.ok.sim.cont _ _ _ (pos n hn) h3)
  ·exact h.ok.sim.dist _ _ x y b (pos n hn) (pos m hm) (fun e => hne (pi_inj hB hnd hl e)) (lv n hln) (lv m hlm) hx hy hbx hby
  ·show ρ (pi B s.nx l 0) = none
   rw [pi_lt hB0]; exact h.ok.sim.zero
  ·obtain ⟨d1, h3, h4⟩ := hc n o c1 h1
   obtain ⟨d2, h5, h6⟩ := hc n o' c2 h2
   have := h.ok.sim.lay _ o o' d1 d2 (pos n hn) h3 h5 (h4.live hl1).1 (h6.live hl2).1 hlt
   rw [← (h4.live hl1).2]; exact this
 ·intro t v ht
  obtain ⟨c, h3, h4⟩ := hc 0 t _ ht
  rw [pi_lt hB0] at h3
  cases c <;> simp only [CW] at h4 <;> try exact h4.elim
  subst h4
  obtain ⟨u, h5, h6⟩ := h.ok.slots t _ h3
  exact ⟨u, h5, VRel.unren (ρ := ρ) (ρ' := fun n => ρ (pi B s.nx l n)) (fun _ => rfl) h6⟩
 ·show ρ (pi B s.nx l n) = none
  refine h.fresh _ ?_
  have h1 : ¬ n < B := by omega
  have h2 : ¬ n - B < l.length := by omega
  rw [pi_ge h1]; simp [h2]
theorem Weak.holds {B : Nat} {s s' : St} (k : Weak B s s') {mine : Nat → Prop} {ρ : Env} {ro : Nat → Prop} {a : Act} {w : World} (h : Holds mine ρ ro s a w) : ∃ ρ', Keep B mine ρ ρ' ro ro w w ∧ Holds mine ρ' ro s' a w := by
 obtain ⟨l, k⟩ := k
 exact ⟨_, k.holds h⟩
def tk (n x m : Nat) : Nat := bif m == x then n else m
structure TakeL (n : Nat) (s s' : St) : Prop where
 slots : s'.N = s.N
 pos : 0 < n ∧ n < s.nx
 nx : s'.nx = s.nx + 1
 gone : ∀ o c, hget s'.h n o ≠ some c
 cont : ∀ m o c', hget s'.h m o = some c' → ∃ c, hget s.h (tk n s.nx m) o = some c ∧ CW (tk n s.nx) c' c
theorem TakeL.holds {B n : Nat} {s s' : St} (hB : B ≤ s.nx) (k : TakeL n s s') {mine : Nat → Prop} {ρ : Env} {ro : Nat → Prop} {a : Act} {w : World} (h : Holds mine ρ ro s a w) : Keep B mine ρ (fun m => ρ (tk n s.nx m)) ro ro w w ∧ Holds mine (fun m => ρ (tk n s.nx m)) ro s' a w := by
 have hc := k.cont
 have hg := k.gone
 have e := k.nx
 obtain ⟨p1, p2⟩ := k.pos
 have t0 : ∀ m, m ≠ s.nx → tk n s.nx m = m := by
  intro m hm
  have : (m == s.nx) = false := by simpa using hm
  simp [tk, this]
 have t1 : tk n s.nx s.nx = n := by simp [tk]
 have pos : ∀ m, 0 < m → 0 < tk n s.nx m := by
  intro m hm
  by_cases hx : m = s.nx
  ·rw [hx, t1]; exact p1
  ·rw [t0 m hx]; exact hm
 have lv : ∀ m, live s'.h m → live s.h (tk n s.nx m) := by
  rintro m ⟨o, c', h1, h2⟩
  obtain ⟨c, h3, h4⟩ := hc m o c' h1
  exact ⟨o, c, h3, (h4.live h2).1⟩
 have inj : ∀ m m', live s'.h m → live s'.h m' → tk n s.nx m = tk n s.nx m' → m = m' := by
  intro m m' l1 l2 he
  by_cases hx : m = s.nx <;> by_cases hy : m' = s.nx
  ·rw [hx, hy]
  ·rw [hx, t1, t0 m' hy] at he
   obtain ⟨o, c, h1, _⟩ := l2
   exact absurd h1 (he ▸ hg o c)
  ·rw [hy, t1, t0 m hx] at he
   obtain ⟨o, c, h1, _⟩ := l1
   exact absurd h1 (he ▸ hg o c)
  ·rwa [t0 m hx, t0 m' hy] at he
 refine ⟨⟨fun m v hm hv => by show ρ (tk n s.nx m) = _; rw [t0 m (by omega)]; exact hv, fun _ h => h, fun _ h => .inl h, fun _ _ => rfl, .refl _ _⟩, ⟨⟨?_, ?_, k.slots ▸ h.ok.size, h.ok.defers⟩, fun m hm => ?_, by omega⟩⟩
 ·refine ⟨fun m o c' hn hg => ?_, fun n' m x y b hn hm hne hln hlm hx hy hbx hby => ?_, h.ok.sim.new, ?_, fun n' o o' c1 c2 hn h1 h2 hl1 hl2 hlt => ?_⟩
  ·obtain ⟨c, h3, h4⟩ := hc m o c' hg
   exact h4.csim (ρ := ρ) (ρ' := fun m => ρ (tk n s.nx m)) (fun _ => rfl) (h.ok.sim.cont _ _ _ (pos m hn) h3)
  ·exact h.ok.sim.dist _ _ x y b (pos n' hn) (pos m hm) (fun e => hne (inj _ _ hln hlm e)) (lv n' hln) (lv m hlm) hx hy hbx hby
  ·show ρ (tk n s.nx 0) = none
   rw [t0 0 (by omega)]; exact h.ok.sim.zero
  ·obtain ⟨d1, h3, h4⟩ := hc n' o c1 h1
   obtain ⟨d2, h5, h6⟩ := hc n' o' c2 h2
   have := h.ok.sim.lay _ o o' d1 d2 (pos n' hn) h3 h5 (h4.live hl1).1 (h6.live hl2).1 hlt
   rw [← (h4.live hl1).2]; exact this
 ·intro t v ht
  obtain ⟨c, h3, h4⟩ := hc 0 t _ ht
  rw [t0 0 (by omega)] at h3
  cases c <;> simp only [CW] at h4 <;> try exact h4.elim
  subst h4
  obtain ⟨u, h5, h6⟩ := h.ok.slots t _ h3
  exact ⟨u, h5, VRel.unren (ρ := ρ) (ρ' := fun m => ρ (tk n s.nx m)) (fun _ => rfl) h6⟩
 ·show ρ (tk n s.nx m) = none
  rw [t0 m (by omega)]
  exact h.fresh _ (by omega)
mutual
def AV.frz (n sz k : Nat) (f : Nat → AV) : AV → AV
 | .rp cs => .rp (frzL n sz k f cs)
 | .rs sz' k' full g => .rs sz' k' full fun i => (g i).frz n sz k f
 | .vs m => bif m == n then .rs sz k false f else .vs m
 | .fn g cap => .fn g (frzL n sz k f cap)
 | .agg cs => .agg (frzL n sz k f cs)
 | .arr k' g => .arr k' fun i => (g i).frz n sz k f
 | .tup vs => .tup (frzL n sz k f vs)
 | .whn cs v => .whn cs (v.frz n sz k f)
 | v => v
def frzL (n sz k : Nat) (f : Nat → AV) : List AV → List AV
 | [] => []
 | v :: vs => v.frz n sz k f :: frzL n sz k f vs
end
theorem frz_cells (n sz k : Nat) (f : Nat → AV) (v : AV) : (v.frz n sz k f).cells = frzL n sz k f v.cells := by
 cases v <;> simp [AV.frz, AV.cells, frzL]
 case vs m => cases (m == n) <;> rfl
theorem VRel.frz {ρ : Env} {ro ro' : Nat → Prop} {w : World} {n sz k : Nat} {f : Nat → AV} (hm : ∀ b, ro b → ro' b) (hn : ∀ x, ρ n = some x → VRel ρ ro' w (.rs sz k false f) x) {v : AV} {x : Value} (h : VRel ρ ro w v x) : VRel ρ ro' w (v.frz n sz k f) x := by
 refine VRel.rec (motive_1 := fun u x _ => VRel ρ ro' w (u.frz n sz k f) x) (motive_2 := fun us xs _ => LRel ρ ro' w (frzL n sz k f us) xs) (motive_3 := fun us xs _ => CRel ρ ro' w (frzL n sz k f us) xs)
  ?_ ?_ ?_ ?_ ?_ ?_ ?_ ?_ ?_ ?_ ?_ ?_ ?_ ?_ ?_ ?_ ?_ ?_ ?_ ?_ ?_ ?_ ?_ ?_ ?_ ?_ h
 ·intro k n; exact .int _ _
 ·intro b; exact .bool _
 ·intro s; exact .str _
 ·exact .nilp
 ·intro n off b hb; exact .ptr _ _ b hb
 ·intro n off b i hb; exact .pe _ _ b _ hb
 ·intro n sz off b l c i hb; exact .vp _ _ _ b l c _ hb
 ·intro cs a us h1 h2 h3 _ ih; exact .rp _ a us (hm _ h1) h2 h3 ih
 ·intro sz' n' cap full g a vals h1 h2 h3 h4 h5 _ ih
  refine .rs _ _ cap _ _ a vals h1 h2 h3 (fun h0 => ?_) h5 fun i hi => by rw [frz_cells]; exact ih i hi
  obtain ⟨ad, e, hr, hs, hc⟩ := h4 h0
  exact ⟨ad, e, hm _ hr, hs, hc⟩
 ·intro m x hx hv
  simp only [AV.frz]
  cases hb : (m == n) with
  | false => exact .vs _ x hx hv
  | true =>
    have : m = n := by simpa using hb
    subst this
    exact hn x hx
 ·intro m sz lo k cap a0 a l c h hl hn hm ha; exact .sub m sz lo k cap a0 a l c h hl hn hm ha
 ·exact .nils
 ·intro n r hr; exact .mp _ r hr
 ·exact .nilm
 ·intro f cap us _ ih; exact .fn _ _ us ih
 ·exact .nilf
 ·intro cs us _ ih; exact .agg _ us ih
 ·intro vs us _ ih; exact .tup _ us ih
 ·intro n b hb; exact .it _ b hb
 ·intro cs v x hc _ ih; exact .whnT _ _ x hc ih
 ·intro cs v hc; exact .whnF _ _ hc
 ·exact .nil
 ·intro v vs u us _ _ ih it; exact .cons _ _ u us ih it
 ·exact .nil
 ·intro v vs u us _ h1 _ ih it; exact .cons _ _ u us ih h1 it
 ·intro n f vs xs us hl _ h1 _ ih it; exact .arr _ _ _ xs us hl ih h1 it
theorem CRel.frz {ρ : Env} {ro ro' : Nat → Prop} {w : World} {n sz k : Nat} {f : Nat → AV} (hm : ∀ b, ro b → ro' b) (hn : ∀ x, ρ n = some x → VRel ρ ro' w (.rs sz k false f) x) {vs : List AV} {xs : List Value} (h : CRel ρ ro w vs xs) : CRel ρ ro' w (frzL n sz k f vs) xs := by
 have h1 := VRel.frz hm hn (VRel.agg vs xs h)
 have h2 : ∀ y, VRel ρ ro' w (.agg (frzL n sz k f vs)) y → y = .agg xs.toArray → CRel ρ ro' w (frzL n sz k f vs) xs := by
  intro y hy e
  cases hy with
  | agg _ us' hq => injection e with e; have e2 := congrArg Array.toList e; simp at e2; exact e2 ▸ hq
 exact h2 _ (by simpa only [AV.frz] using h1) rfl
def Cont.frz (n sz k : Nat) (f : Nat → AV) : Cont → Cont
 | .cell v => .cell (v.frz n sz k f)
 | .arr k' g => .arr k' fun i => (g i).frz n sz k f
 | .vec sz' e k' g => .vec sz' e k' fun i => (g i).frz n sz k f
 | .map ar es => .map ar (es.map fun x => (x.1, x.2.frz n sz k f))
 | .maps ar es bs ck => .maps ar (es.map fun x => (x.1, x.2.frz n sz k f)) bs ck
 | c => c
def frzH (n sz k : Nat) (f : Nat → AV) : Heap → Heap
 | [] => []
 | (m, o, c) :: h => bif m == n then frzH n sz k f h else (m, o, c.frz n sz k f) :: frzH n sz k f h
theorem frzH_get (n sz k : Nat) (f : Nat → AV) : ∀ (h : Heap) (m o : Nat) (c : Cont), hget (frzH n sz k f h) m o = some c → m ≠ n ∧ ∃ c', hget h m o = some c' ∧ c = c'.frz n sz k f
 | [], m, o, c, e => by simp [frzH, hget] at e
 | (m', o', c') :: h, m, o, c, e => by
   simp only [frzH] at e
   cases hb : (m' == n) with
   | true =>
     simp only [hb, cond_true] at e
     obtain ⟨h1, c2, h2, h3⟩ := frzH_get n sz k f h m o c e
     have : m' = n := by simpa using hb
     exact ⟨h1, c2, by rw [hget_cons, if_neg (fun q => h1 (q.1.symm.trans this))]; exact h2, h3⟩
   | false =>
     simp only [hb, cond_false] at e
     rw [hget_cons] at e
     split at e
     ·rename_i he
      obtain ⟨rfl, rfl⟩ := he
      injection e with e; subst e
      exact ⟨by simpa using hb, c', by rw [hget_cons, if_pos ⟨rfl, rfl⟩], rfl⟩
     ·rename_i he
      obtain ⟨h1, c2, h2, h3⟩ := frzH_get n sz k f h m o c e
      exact ⟨h1, c2, by rw [hget_cons, if_neg he]; exact h2, h3⟩
theorem Cont.frz_live {n sz k : Nat} {f : Nat → AV} (c : Cont) : ((c.frz n sz k f).live ↔ c.live) ∧ (c.frz n sz k f).wd = c.wd := by cases c <;> exact ⟨Iff.rfl, rfl⟩
theorem CSim.frz {mine : Nat → Prop} {ρ : Env} {ro ro' : Nat → Prop} {w : World} {n sz k : Nat} {f : Nat → AV} (hm : ∀ b, ro b → ro' b) (hn : ∀ x, ρ n = some x → VRel ρ ro' w (.rs sz k false f) x) {m o : Nat} {c : Cont} (h : CSim mine ρ ro w m o c)
 (hb : ∀ x b, ρ m = some x → blk x = some b → ¬ ro' b) : CSim mine ρ ro' w m o (c.frz n sz k f) := by
 cases c with
 | cell v =>
   obtain ⟨b, cs, ty, u, h1, h2, h3, h4, h5, h6, h7⟩ := h
   exact ⟨b, cs, ty, u, h1, h2, h3, hb _ b h1 rfl, h5, h6, VRel.frz hm hn h7⟩
 | arr k' g =>
   obtain ⟨b, cs, ty, h1, h2, h3, h4, h5⟩ := h
   refine ⟨b, cs, ty, h1, h2, h3, hb _ b h1 rfl, fun i hi => ?_⟩
   obtain ⟨u, a1, a2, a3⟩ := h5 i hi
   exact ⟨u, a1, a2, VRel.frz hm hn a3⟩
 | vec sz' e k' g =>
   obtain ⟨ho, x, xs, h1, h2, h3, h4, h5⟩ := h
   exact ⟨ho, x, xs, h1, fun b e => ⟨(h2 b e).1, hb x b h1 e⟩, h3, h4, fun i hi => by rw [frz_cells]; exact CRel.frz hm hn (h5 i hi)⟩
 | map ar es =>
   obtain ⟨ho, r, ms, clock, h1, h2, h3, h4, h5, h6⟩ := h
   refine ⟨ho, r, ms, clock, h1, h2, h3, hb _ r h1 rfl, ⟨by simpa using h5.1, h5.2⟩, fun i hi e he => ?_⟩
   simp only [List.getElem?_map, Option.map_eq_some_iff] at he
   obtain ⟨e0, h7, rfl⟩ := he
   have := h6 i hi e0 h7
   exact ⟨this.key, VRel.frz hm hn this.val⟩
 | maps ar es bs ck =>
   obtain ⟨ho, r, ms, h1, h2, h3, h4, h5, h6⟩ := h
   refine ⟨ho, r, ms, h1, h2, h3, hb _ r h1 rfl, ⟨by simpa using h5.1, h5.2⟩, fun i hi e he => ?_⟩
   simp only [List.getElem?_map, Option.map_eq_some_iff] at he
   obtain ⟨e0, h7, rfl⟩ := he
   have := h6 i hi e0 h7
   exact ⟨this.key, VRel.frz hm hn this.val⟩
 | iter m since seen c0 k v =>
   obtain ⟨ho, b, r, h1, h2, h3, h4, h5⟩ := h
   exact ⟨ho, b, r, h1, h2, h3, hb _ b h1 rfl, h5⟩
 | top =>
   obtain ⟨b, cs, ty, h1, h2, h3, h4, h5⟩ := h
   exact ⟨b, cs, ty, h1, h2, h3, hb _ b h1 rfl, h5⟩
 | dead => trivial
theorem vec_rs {mine : Nat → Prop} {ρ : Env} {ro ro' : Nat → Prop} {w : World} {n sz e k : Nat} {f : Nat → AV} (hm : ∀ b, ro b → ro' b) (h : CSim mine ρ ro w n 0 (.vec sz e k f)) (hb : ∀ x b, ρ n = some x → blk x = some b → ro' b) : ∀ x, ρ n = some x → VRel ρ ro' w (.rs sz k false f) x := by
 intro x hx
 obtain ⟨_, x', xs, c1, c2, c3, c4, c5⟩ := h
 rw [hx] at c1; injection c1 with c1; subst c1
 have g : Grow ρ ρ ro ro' w w := ⟨fun _ _ h => h, hm, fun _ _ => rfl⟩
 rcases c3.2 with ⟨rfl, rfl⟩ | ⟨gg, cap, cur, rfl, hbase, hg, hkc, hcm, hcs, htake⟩
 ·exact .rs _ _ 0 _ _ none (fun _ => []) (Nat.le_refl _) (Nat.zero_le _) (fun e => by cases e) (fun h0 => absurd h0 (Nat.lt_irrefl 0)) (fun i hi => absurd hi (Nat.not_lt_zero _)) (fun i hi => absurd hi (Nat.not_lt_zero _))
 ·have hlen := c3.1
  refine .rs _ _ cap _ _ _ (fun i => (xs.drop (i * sz)).take sz) hkc hcm (fun e => by cases e) (fun h0 => ⟨_, rfl, hb _ gg hx rfl, rfl, fun i hi k u hk => ?_⟩) (fun i hi => ?_) fun i hi => CRel.grow g (c5 i hi)
  ·have hlt := (List.getElem?_eq_some_iff.1 hk).1
   rw [List.length_take] at hlt
   have hsz : k < sz := by omega
   rw [seg_get hsz] at hk
   exact c3.cells rfl _ _ hk
  ·rw [List.length_take, List.length_drop, hlen]
   have : i * sz + sz ≤ k * sz := by rw [← Nat.succ_mul]; exact Nat.mul_le_mul_right _ hi
   omega
theorem frz_holds {B n sz e k : Nat} {f : Nat → AV} {s : St} (hn : 0 < n) (hc : hget s.h n 0 = some (.vec sz e k f)) {mine : Nat → Prop} {ρ : Env} {ro : Nat → Prop} {a : Act} {w : World} (h : Holds mine ρ ro s a w) :
 ∃ ro', Keep B mine ρ ρ ro ro' w w ∧ Holds mine ρ ro' ⟨frzH n sz k f s.h, s.nx, s.N⟩ a w := by
 have S := h.ok.sim
 have h0 := S.cont n 0 _ hn hc
 obtain ⟨x, hx⟩ : ∃ x, ρ n = some x := by obtain ⟨_, x, xs, c1, _⟩ := h0; exact ⟨x, c1⟩
 have hln : live s.h n := ⟨0, _, hc, trivial⟩
 let ro' : Nat → Prop := fun b => ro b ∨ blk x = some b
 have hm : ∀ b, ro b → ro' b := fun b h => .inl h
 have hrs := vec_rs (ro' := ro') hm h0 (fun y b hy hb => by rw [hx] at hy; injection hy with hy; subst hy; exact .inr hb)
 have hlt : ∀ b, blk x = some b → b < w.heap.size ∧ mine b ∧ ¬ ro b := fun b hb => h0.lt trivial hx hb
 refine ⟨ro', ⟨fun _ _ _ h => h, hm, fun b hb => hb.elim .inl fun hb => .inr (hlt b hb).2.1, fun _ _ => rfl, .refl _ _⟩, ⟨⟨?_, ?_, h.ok.size, h.ok.defers.mono hm fun _ _ => rfl⟩, h.fresh, h.pos⟩⟩
 ·have lv : ∀ m, live (frzH n sz k f s.h) m → m ≠ n ∧ live s.h m := by
   rintro m ⟨o, c, h1, h2⟩
   obtain ⟨k1, c', k2, rfl⟩ := frzH_get _ _ _ _ _ _ _ _ h1
   exact ⟨k1, o, c', k2, (c'.frz_live).1.1 h2⟩
  refine ⟨fun m o c hm0 hg => ?_, fun a b x y bb ha hb hne hl hl' => S.dist a b x y bb ha hb hne (lv a hl).2 (lv b hl').2, fun b hb => ⟨(S.new b hb).1, fun hr => hr.elim (S.new b hb).2 fun hr => by have := (hlt b hr).1; omega⟩, S.zero, fun m o o' c c' hm0 h1 h2 l1 l2 hlt2 => ?_⟩
  ·obtain ⟨k1, c', k2, rfl⟩ := frzH_get _ _ _ _ _ _ _ _ hg
   have h1 := S.cont m o c' hm0 k2
   by_cases hl : c'.live
   ·refine h1.frz hm hrs fun y b hy hby hr => hr.elim (h1.lt hl hy hby).2.2 fun hr => ?_
    exact S.dist m n y x b hm0 hn k1 ⟨o, c', k2, hl⟩ hln hy hx hby hr
   ·cases c' <;> simp [Cont.live] at hl
    trivial
  ·obtain ⟨k1, d1, k2, rfl⟩ := frzH_get _ _ _ _ _ _ _ _ h1
   obtain ⟨_, d2, k3, rfl⟩ := frzH_get _ _ _ _ _ _ _ _ h2
   rw [d1.frz_live.2]
   exact S.lay m o o' d1 d2 hm0 k2 k3 (d1.frz_live.1.1 l1) (d2.frz_live.1.1 l2) hlt2
 ·intro t v ht
  obtain ⟨_, c', k2, hk⟩ := frzH_get _ _ _ _ _ _ _ _ ht
  cases c' <;> simp only [Cont.frz, reduceCtorEq, Cont.cell.injEq] at hk
  subst hk
  obtain ⟨u, h5, h6⟩ := h.ok.slots t _ k2
  exact ⟨u, h5, VRel.frz hm hrs h6⟩
def nilH (n o z sz e : Nat) (f : Nat → AV) (h : Heap) : Heap := (z, 0, .vec sz e 0 f) :: (n, o, .cell (.vs z)) :: h
theorem nil_holds {B n o sz e : Nat} {f : Nat → AV} {s : St} (hB : B ≤ s.nx) (hc : hget s.h n o = some (.cell .nils)) {mine : Nat → Prop} {ρ : Env} {ro : Nat → Prop} {a : Act} {w : World} (h : Holds mine ρ ro s a w) :
 ∃ ρ', Keep B mine ρ ρ' ro ro w w ∧ Holds mine ρ' ro ⟨nilH n o s.nx sz e f s.h, s.nx + 1, s.N⟩ a w := by
 have S := h.ok.sim
 have hf := h.fresh s.nx (Nat.le_refl _)
 have dead : ∀ o' c, hget s.h s.nx o' = some c → ¬ c.live := fun o' c e => fresh_dead S h.pos hf e
 have hne : n ≠ s.nx := fun e => dead o (.cell .nils) (e ▸ hc) trivial
 have g : Grow ρ (bind1 ρ s.nx (.slice none 0 0)) ro ro w w := by
  refine ⟨fun m v hv => ?_, fun _ h => h, fun _ _ => rfl⟩
  have : m ≠ s.nx := fun e => by subst e; rw [hf] at hv; cases hv
  simp [bind1, this, hv]
 have get : ∀ m o' c, hget (nilH n o s.nx sz e f s.h) m o' = some c → (m = s.nx ∧ o' = 0 ∧ c = .vec sz e 0 f) ∨ (m = n ∧ o' = o ∧ c = .cell (.vs s.nx)) ∨ (¬ (m = n ∧ o' = o) ∧ hget s.h m o' = some c) := by
  intro m o' c e
  unfold nilH at e
  rw [hget_cons] at e
  split at e
  ·rename_i he; obtain ⟨rfl, rfl⟩ := he; injection e with e; exact .inl ⟨rfl, rfl, e.symm⟩
  ·rw [hget_cons] at e
   split at e
   ·rename_i he; obtain ⟨rfl, rfl⟩ := he; injection e with e; exact .inr (.inl ⟨rfl, rfl, e.symm⟩)
   ·rename_i he; exact .inr (.inr ⟨fun q => he ⟨q.1.symm, q.2.symm⟩, e⟩)
 have hvs : VRel (bind1 ρ s.nx (.slice none 0 0)) ro w (.vs s.nx) (.slice none 0 0) := .vs _ _ (by simp [bind1]) ⟨_, _, _, rfl⟩
 have lvw : ∀ m o' c, hget (nilH n o s.nx sz e f s.h) m o' = some c → c.live → m ≠ s.nx → ∃ c', hget s.h m o' = some c' ∧ c'.live ∧ c'.wd = c.wd := by
  intro m o' c e hl hm
  rcases get m o' c e with ⟨rfl, _⟩ | ⟨rfl, rfl, rfl⟩ | ⟨_, h2⟩
  ·exact absurd rfl hm
  ·exact ⟨_, hc, trivial, rfl⟩
  ·exact ⟨c, h2, hl, rfl⟩
 refine ⟨bind1 ρ s.nx (.slice none 0 0), ⟨fun m v hm hv => g.env m v hv, fun _ h => h, fun _ h => .inl h, fun _ _ => rfl, .refl _ _⟩, ⟨⟨⟨fun m o' c hm hg => ?_, fun m k x y b hm hk hne' hl hl' hx hy hbx hby => ?_, S.new, ?_, fun m o1 o2 c1 c2 hm h1 h2 l1 l2 hlt => ?_⟩, fun t v ht => ?_, h.ok.size, h.ok.defers⟩, fun m hm => ?_, Nat.succ_pos _⟩⟩
 ·rcases get m o' c hg with ⟨rfl, rfl, rfl⟩ | ⟨rfl, rfl, rfl⟩ | ⟨_, h2⟩
  ·exact ⟨rfl, .slice none 0 0, [], by simp [bind1], fun b e => by simp [blk] at e, OwnR.nil _ _ _, (fun u hu => by simp at hu), fun i hi => absurd hi (Nat.not_lt_zero _)⟩
  ·obtain ⟨b, cs, ty, u, h1, h2, h3, h4, h5, h6, h7⟩ := S.cont m o' _ hm hc
   cases h7
   exact ⟨b, cs, ty, _, g.env _ _ h1, h2, h3, h4, h5, h6, hvs⟩
  ·have h1 := S.cont m o' c hm h2
   by_cases hl : c.live
   ·exact h1.frame g fun x b hx hb => ⟨rfl, (h1.lt hl hx hb).2.2⟩
   ·cases c <;> simp [Cont.live] at hl
    trivial
 ·by_cases e1 : m = s.nx
  ·subst e1; simp [bind1] at hx; subst hx; simp [blk] at hbx
  ·by_cases e2 : k = s.nx
   ·subst e2; simp [bind1] at hy; subst hy; simp [blk] at hby
   ·obtain ⟨o1, c1, h1, l1⟩ := hl
    obtain ⟨o2, c2, h2, l2⟩ := hl'
    obtain ⟨c1', h1', l1', _⟩ := lvw m o1 c1 h1 l1 e1
    obtain ⟨c2', h2', l2', _⟩ := lvw k o2 c2 h2 l2 e2
    simp [bind1, e1] at hx
    simp [bind1, e2] at hy
    exact S.dist m k x y b hm hk hne' ⟨o1, c1', h1', l1'⟩ ⟨o2, c2', h2', l2'⟩ hx hy hbx hby
 ·have := h.pos
  simp [bind1, Nat.ne_of_lt this, S.zero]
 ·by_cases e1 : m = s.nx
  ·subst e1
   rcases get _ _ _ h1 with ⟨_, rfl, rfl⟩ | ⟨e2, _⟩ | ⟨_, h3⟩
   ·rcases get _ _ _ h2 with ⟨_, rfl, _⟩ | ⟨e2, _⟩ | ⟨_, h4⟩
    ·omega
    ·exact absurd e2.symm hne
    ·exact absurd l2 (dead _ _ h4)
   ·exact absurd e2.symm hne
   ·exact absurd l1 (dead _ _ h3)
  ·obtain ⟨c1', h1', l1', w1⟩ := lvw m o1 c1 h1 l1 e1
   obtain ⟨c2', h2', l2', _⟩ := lvw m o2 c2 h2 l2 e1
   rw [← w1]
   exact S.lay m o1 o2 c1' c2' hm h1' h2' l1' l2' hlt
 ·rcases get 0 t _ ht with ⟨e1, _⟩ | ⟨rfl, rfl, e1⟩ | ⟨_, h2⟩
  ·have := h.pos; omega
  ·injection e1 with e1; subst e1
   obtain ⟨u, h5, h6⟩ := h.ok.slots t _ hc
   cases h6
   exact ⟨_, h5, hvs⟩
  ·obtain ⟨u, h5, h6⟩ := h.ok.slots t _ h2
   exact ⟨u, h5, h6.grow g⟩
 ·have : m ≠ s.nx := by have : s.nx + 1 ≤ m := hm; omega
  simp [bind1, this]
  exact h.fresh m (by have : s.nx + 1 ≤ m := hm; omega)
def rpOf (n : Nat) (cs : List AV) (m o : Nat) : AV := bif m == n && Nat.ble o cs.length then .rp (cs.drop o) else .ptr m o
mutual
def AV.frzP (n : Nat) (ds : List AV) : AV → AV
 | .ptr m o => rpOf n ds m o
 | .rp cs => .rp (frzPL n ds cs)
 | .rs sz' k' full g => .rs sz' k' full fun i => (g i).frzP n ds
 | .fn g cap => .fn g (frzPL n ds cap)
 | .agg cs => .agg (frzPL n ds cs)
 | .arr k' g => .arr k' fun i => (g i).frzP n ds
 | .tup vs => .tup (frzPL n ds vs)
 | .whn cs v => .whn cs (v.frzP n ds)
 | v => v
def frzPL (n : Nat) (ds : List AV) : List AV → List AV
 | [] => []
 | v :: vs => v.frzP n ds :: frzPL n ds vs
end
theorem frzP_cells (n : Nat) (ds : List AV) (v : AV) : (v.frzP n ds).cells = frzPL n ds v.cells := by
 cases v <;> simp [AV.frzP, AV.cells, frzPL]
 case ptr m o =>
  unfold rpOf
  cases (m == n && Nat.ble o ds.length) <;> rfl
theorem VRel.frzP {ρ : Env} {ro ro' : Nat → Prop} {w : World} {n : Nat} {ds : List AV} (hm : ∀ b, ro b → ro' b) (hn : ∀ o b, o ≤ ds.length → ρ n = some (.pointer (some ⟨b, 0, none⟩)) → VRel ρ ro' w (.rp (ds.drop o)) (.pointer (some ⟨b, o, none⟩))) {v : AV} {x : Value} (h : VRel ρ ro w v x) : VRel ρ ro' w (v.frzP n ds) x := by
 refine VRel.rec (motive_1 := fun u x _ => VRel ρ ro' w (u.frzP n ds) x) (motive_2 := fun us xs _ => LRel ρ ro' w (frzPL n ds us) xs) (motive_3 := fun us xs _ => CRel ρ ro' w (frzPL n ds us) xs)
  ?_ ?_ ?_ ?_ ?_ ?_ ?_ ?_ ?_ ?_ ?_ ?_ ?_ ?_ ?_ ?_ ?_ ?_ ?_ ?_ ?_ ?_ ?_ ?_ ?_ ?_ h
 ·intro k n; exact .int _ _
 ·intro b; exact .bool _
 ·intro s; exact .str _
 ·exact .nilp
 ·intro m o b hb
  show VRel ρ ro' w (rpOf n ds m o) _
  unfold rpOf
  cases e : (m == n && Nat.ble o ds.length) with
  | true =>
    simp only [Bool.and_eq_true, beq_iff_eq] at e
    exact hn o b (Nat.le_of_ble_eq_true e.2) (e.1 ▸ hb)
  | false => exact .ptr _ _ b hb
 ·intro n off b i hb; exact .pe _ _ b _ hb
 ·intro n sz off b l c i hb; exact .vp _ _ _ b l c _ hb
 ·intro cs a us h1 h2 h3 _ ih; exact .rp _ a us (hm _ h1) h2 h3 ih
 ·intro sz' n' cap full g a vals h1 h2 h3 h4 h5 _ ih
  refine .rs _ _ cap _ _ a vals h1 h2 h3 (fun h0 => ?_) h5 fun i hi => by rw [frzP_cells]; exact ih i hi
  obtain ⟨ad, e, hr, hs, hc⟩ := h4 h0
  exact ⟨ad, e, hm _ hr, hs, hc⟩
 ·intro n x hx hv; exact .vs _ x hx hv
 ·intro m sz lo k cap a0 a l c h hl hn hm ha; exact .sub m sz lo k cap a0 a l c h hl hn hm ha
 ·exact .nils
 ·intro n r hr; exact .mp _ r hr
 ·exact .nilm
 ·intro f cap us _ ih; exact .fn _ _ us ih
 ·exact .nilf
 ·intro cs us _ ih; exact .agg _ us ih
 ·intro vs us _ ih; exact .tup _ us ih
 ·intro n b hb; exact .it _ b hb
 ·intro cs v x hc _ ih; exact .whnT _ _ x hc ih
 ·intro cs v hc; exact .whnF _ _ hc
 ·exact .nil
 ·intro v vs u us _ _ ih it; exact .cons _ _ u us ih it
 ·exact .nil
 ·intro v vs u us _ h1 _ ih it; exact .cons _ _ u us ih h1 it
 ·intro n f vs xs us hl _ h1 _ ih it; exact .arr _ _ _ xs us hl ih h1 it
theorem CRel.frzP {ρ : Env} {ro ro' : Nat → Prop} {w : World} {n : Nat} {ds : List AV} (hm : ∀ b, ro b → ro' b) (hn : ∀ o b, o ≤ ds.length → ρ n = some (.pointer (some ⟨b, 0, none⟩)) → VRel ρ ro' w (.rp (ds.drop o)) (.pointer (some ⟨b, o, none⟩))) : ∀ {vs : List AV} {xs : List Value}, CRel ρ ro w vs xs → CRel ρ ro' w (frzPL n ds vs) xs
 | [], _, h => by cases h; exact .nil
 | v :: vs, _, h => by
   cases h with
   | cons _ _ u us h1 h2 t => exact .cons _ _ u us (VRel.frzP hm hn h1) h2 (CRel.frzP hm hn t)
   | arr k f _ xs us hl h1 h2 t => exact .arr k _ _ xs us hl (fun i u hu => VRel.frzP hm hn (h1 i u hu)) h2 (CRel.frzP hm hn t)
def Cont.frzP (n : Nat) (ds : List AV) : Cont → Cont
 | .cell v => .cell (v.frzP n ds)
 | .arr k g => .arr k fun i => (g i).frzP n ds
 | .vec sz e k g => .vec sz e k fun i => (g i).frzP n ds
 | .map ar es => .map ar (es.map fun e => (e.1, e.2.frzP n ds))
 | .maps ar es bs ck => .maps ar (es.map fun e => (e.1, e.2.frzP n ds)) bs ck
 | c => c
def frzPH (n : Nat) (ds : List AV) : Heap → Heap
 | [] => []
 | (m, o, c) :: h => bif m == n then frzPH n ds h else (m, o, c.frzP n ds) :: frzPH n ds h
theorem frzPH_get (n : Nat) (ds : List AV) : ∀ (h : Heap) (m o : Nat) (c : Cont), hget (frzPH n ds h) m o = some c → m ≠ n ∧ ∃ c', hget h m o = some c' ∧ c = c'.frzP n ds
 | [], m, o, c, e => by simp [frzPH, hget] at e
 | (m', o', c') :: h, m, o, c, e => by
   simp only [frzPH] at e
   cases hb : (m' == n) with
   | true =>
     simp only [hb, cond_true] at e
     obtain ⟨h1, c2, h2, h3⟩ := frzPH_get n ds h m o c e
     have : m' = n := by simpa using hb
     exact ⟨h1, c2, by rw [hget_cons, if_neg (fun q => h1 (q.1.symm.trans this))]; exact h2, h3⟩
   | false =>
     simp only [hb, cond_false] at e
     rw [hget_cons] at e
     split at e
     ·rename_i he
      obtain ⟨rfl, rfl⟩ := he
      injection e with e; subst e
      exact ⟨by simpa using hb, c', by rw [hget_cons, if_pos ⟨rfl, rfl⟩], rfl⟩
     ·rename_i he
      obtain ⟨h1, c2, h2, h3⟩ := frzPH_get n ds h m o c e
      exact ⟨h1, c2, by rw [hget_cons, if_neg he]; exact h2, h3⟩
theorem Cont.frzP_live {n : Nat} {ds : List AV} (c : Cont) : ((c.frzP n ds).live ↔ c.live) ∧ (c.frzP n ds).wd = c.wd := by cases c <;> exact ⟨Iff.rfl, rfl⟩
theorem CSim.frzP {mine : Nat → Prop} {ρ : Env} {ro ro' : Nat → Prop} {w : World} {n : Nat} {ds : List AV} (hm : ∀ b, ro b → ro' b) (hn : ∀ o b, o ≤ ds.length → ρ n = some (.pointer (some ⟨b, 0, none⟩)) → VRel ρ ro' w (.rp (ds.drop o)) (.pointer (some ⟨b, o, none⟩))) {m o : Nat} {c : Cont} (h : CSim mine ρ ro w m o c)
 (hb : ∀ x b, ρ m = some x → blk x = some b → ¬ ro' b) : CSim mine ρ ro' w m o (c.frzP n ds) := by
 cases c with
 | cell v =>
   obtain ⟨b, cs, ty, u, h1, h2, h3, h4, h5, h6, h7⟩ := h
   exact ⟨b, cs, ty, u, h1, h2, h3, hb _ b h1 rfl, h5, h6, VRel.frzP hm hn h7⟩
 | arr k' g =>
   obtain ⟨b, cs, ty, h1, h2, h3, h4, h5⟩ := h
   refine ⟨b, cs, ty, h1, h2, h3, hb _ b h1 rfl, fun i hi => ?_⟩
   obtain ⟨u, a1, a2, a3⟩ := h5 i hi
   exact ⟨u, a1, a2, VRel.frzP hm hn a3⟩
 | vec sz' e k' g =>
   obtain ⟨ho, x, xs, h1, h2, h3, h4, h5⟩ := h
   exact ⟨ho, x, xs, h1, fun b e => ⟨(h2 b e).1, hb x b h1 e⟩, h3, h4, fun i hi => by rw [frzP_cells]; exact CRel.frzP hm hn (h5 i hi)⟩
 | map ar es =>
   obtain ⟨ho, r, ms, clock, h1, h2, h3, h4, h5, h6⟩ := h
   refine ⟨ho, r, ms, clock, h1, h2, h3, hb _ r h1 rfl, ⟨by simpa using h5.1, h5.2⟩, fun i hi e he => ?_⟩
   simp only [List.getElem?_map, Option.map_eq_some_iff] at he
   obtain ⟨e0, h7, rfl⟩ := he
   have := h6 i hi e0 h7
   exact ⟨this.key, VRel.frzP hm hn this.val⟩
 | maps ar es bs ck =>
   obtain ⟨ho, r, ms, h1, h2, h3, h4, h5, h6⟩ := h
   refine ⟨ho, r, ms, h1, h2, h3, hb _ r h1 rfl, ⟨by simpa using h5.1, h5.2⟩, fun i hi e he => ?_⟩
   simp only [List.getElem?_map, Option.map_eq_some_iff] at he
   obtain ⟨e0, h7, rfl⟩ := he
   have := h6 i hi e0 h7
   exact ⟨this.key, VRel.frzP hm hn this.val⟩
 | iter m since seen c0 k v =>
   obtain ⟨ho, b, r, h1, h2, h3, h4, h5⟩ := h
   exact ⟨ho, b, r, h1, h2, h3, hb _ b h1 rfl, h5⟩
 | top =>
   obtain ⟨b, cs, ty, h1, h2, h3, h4, h5⟩ := h
   exact ⟨b, cs, ty, h1, h2, h3, hb _ b h1 rfl, h5⟩
 | dead => trivial
def cellsAt (h : Heap) (n : Nat) : Nat → List AV → Prop
 | _, [] => True
 | o, v :: vs => hget h n o = some (.cell v) ∧ cellsAt h n (o + 1) vs
theorem cellsAt_get {h : Heap} {n : Nat}   : ∀ {vs : List AV} {o : Nat}, cellsAt h n o vs → ∀ (i : Nat) (v : AV), vs[i]? = some v → hget h n (o + i) = some (.cell v)
 | [], o, _, i, v, e => by simp at e
 | u :: vs, o, hc, 0, v, e => by simp at e; subst e; exact hc.1
 | u :: vs, o, hc, i + 1, v, e => by
   have := cellsAt_get hc.2 i v (by simpa using e)
   rwa [show o + 1 + i = o + (i + 1) by omega] at this
theorem frzP_holds {B n : Nat} {ds : List AV} {s : St} (hn : 0 < n) (hd : 0 < ds.length) (hc : cellsAt s.h n 0 ds) {mine : Nat → Prop} {ρ : Env} {ro : Nat → Prop} {a : Act} {w : World} (h : Holds mine ρ ro s a w) :
 ∃ ro', Keep B mine ρ ρ ro ro' w w ∧ Holds mine ρ ro' ⟨frzPH n ds s.h, s.nx, s.N⟩ a w := by
 have S := h.ok.sim
 have hcell := cellsAt_get hc
 obtain ⟨v0, hv0⟩ : ∃ v, ds[0]? = some v := ⟨ds[0], by simp [hd]⟩
 have h00 := S.cont n (0 + 0) _ hn (hcell 0 v0 hv0)
 obtain ⟨b, cs, ty, u0, hx, hb1, hb2, hb3, _⟩ := h00
 have hln : live s.h n := ⟨_, _, hcell 0 v0 hv0, trivial⟩
 let ro' : Nat → Prop := fun c => ro c ∨ c = b
 have hm : ∀ c, ro c → ro' c := fun c h => .inl h
 have hlt : b < w.heap.size := (Array.getElem?_eq_some_iff.1 hb1).1
 have g : Grow ρ ρ ro ro' w w := ⟨fun _ _ h => h, hm, fun _ _ => rfl⟩
 have hat : ∀ (i : Nat) (v : AV), ds[i]? = some v → ∃ u : Value, cs[i]? = some u ∧ u.oneCell' = true ∧ VRel ρ ro w v u := by
  intro i v hv
  obtain ⟨b', cs', ty', u, k1, k2, k3, k4, k5, k6, k7⟩ := S.cont n (0 + i) _ hn (hcell i v hv)
  rw [hx] at k1; injection k1 with k1; injection k1 with k1; injection k1 with k1; injection k1 with k1; subst k1
  rw [hb1] at k2; injection k2 with k2; injection k2 with k2 k2'; subst k2
  rw [Nat.zero_add] at k5
  exact ⟨u, k5, k6, k7⟩
 have hrp : ∀ o b', o ≤ ds.length → ρ n = some (.pointer (some ⟨b', 0, none⟩)) → VRel ρ ro' w (.rp (ds.drop o)) (.pointer (some ⟨b', o, none⟩)) := by
  intro o b' ho hb'
  rw [hx] at hb'; injection hb' with hb'; injection hb' with hb'; injection hb' with hb'; injection hb' with hb'; subst hb'
  have hl : ∀ (k : Nat) (l : List AV), (∀ (i : Nat) (v : AV), l[i]? = some v → ds[k + i]? = some v) → ∃ us : List Value, us.length = l.length ∧ (∀ (j : Nat) (u : Value), us[j]? = some u → cs[k + j]? = some u) ∧ CRel ρ ro' w l us := by
   intro k l
   induction l generalizing k with
   | nil => intro _; exact ⟨[], rfl, fun j u e => by simp at e, .nil⟩
   | cons v l ih =>
     intro hl
     obtain ⟨u, h1, h2, h3⟩ := hat k v (by have := hl 0 v rfl; rwa [Nat.add_zero] at this)
     obtain ⟨us, e1, e2, e3⟩ := ih (k + 1) fun i v' hi => by have := hl (i + 1) v' (by simpa using hi); rwa [show k + (i + 1) = k + 1 + i by omega] at this
     refine ⟨u :: us, by simp [e1], fun j u' hj => ?_, .cons _ _ _ _ (VRel.grow g h3) h2 e3⟩
     cases j with
     | zero => simp at hj; subst hj; exact h1
     | succ j => have := e2 j u' (by simpa using hj); rwa [show k + (j + 1) = k + 1 + j by omega]
  obtain ⟨us, e1, e2, e3⟩ := hl o (ds.drop o) fun i v hi => by rw [List.getElem?_drop] at hi; exact hi
  refine .rp _ _ us (.inr rfl) rfl (fun j u hj => ?_) e3
  have := e2 j u hj
  by_cases hj0 : j = 0
  ·subst hj0
   rw [Nat.add_zero] at this
   simp [World.cell?, Addr.add, hb1, this]
  ·simp [World.cell?, Addr.add, hb1, this, hj0]
 refine ⟨ro', ⟨fun _ _ _ h => h, hm, fun c hc => hc.elim .inl fun hc => .inr (hc ▸ hb2), fun _ _ => rfl, .refl _ _⟩, ⟨⟨?_, ?_, h.ok.size, h.ok.defers.mono hm fun _ _ => rfl⟩, h.fresh, h.pos⟩⟩
 ·have lv : ∀ m, live (frzPH n ds s.h) m → m ≠ n ∧ live s.h m := by
   rintro m ⟨o, c, h1, h2⟩
   obtain ⟨k1, c', k2, rfl⟩ := frzPH_get _ _ _ _ _ _ h1
   exact ⟨k1, o, c', k2, (c'.frzP_live).1.1 h2⟩
  refine ⟨fun m o c hm0 hg => ?_, fun a b' x y bb ha hb hne hl hl' => S.dist a b' x y bb ha hb hne (lv a hl).2 (lv b' hl').2, fun c hc => ⟨(S.new c hc).1, fun hr => hr.elim (S.new c hc).2 fun hr => by omega⟩, S.zero, fun m o o' c c' hm0 h1 h2 l1 l2 hlt2 => ?_⟩
  ·obtain ⟨k1, c', k2, rfl⟩ := frzPH_get _ _ _ _ _ _ hg
   have h1 := S.cont m o c' hm0 k2
   by_cases hl : c'.live
   ·refine h1.frzP hm hrp fun y c hy hby hr => hr.elim (h1.lt hl hy hby).2.2 fun hr => ?_
    subst hr
    exact S.dist m n y _ _ hm0 hn k1 ⟨o, c', k2, hl⟩ hln hy hx hby rfl
   ·cases c' <;> simp [Cont.live] at hl
    trivial
  ·obtain ⟨k1, d1, k2, rfl⟩ := frzPH_get _ _ _ _ _ _ h1
   obtain ⟨_, d2, k3, rfl⟩ := frzPH_get _ _ _ _ _ _ h2
   rw [d1.frzP_live.2]
   exact S.lay m o o' d1 d2 hm0 k2 k3 (d1.frzP_live.1.1 l1) (d2.frzP_live.1.1 l2) hlt2
 ·intro t v ht
  obtain ⟨_, c', k2, hk⟩ := frzPH_get _ _ _ _ _ _ ht
  cases c' <;> simp only [Cont.frzP, reduceCtorEq, Cont.cell.injEq] at hk
  subst hk
  obtain ⟨u, h5, h6⟩ := h.ok.slots t _ k2
  exact ⟨u, h5, VRel.frzP hm hrp h6⟩
def VI (v v' : AV) : Prop := ∀ (ρ : Env) (ro : Nat → Prop) (w : World) (x : Value), VRel ρ ro w v x → VRel ρ ro w v' x
theorem imp_holds {B n o : Nat} {v v' : AV} {s : St} (hc : hget s.h n o = some (.cell v)) (hv : VI v v') {mine : Nat → Prop} {ρ : Env} {ro : Nat → Prop} {a : Act} {w : World} (h : Holds mine ρ ro s a w) :
 Holds mine ρ ro ⟨(n, o, .cell v') :: s.h, s.nx, s.N⟩ a w := by
 have S := h.ok.sim
 have get : ∀ m o' c, hget ((n, o, Cont.cell v') :: s.h) m o' = some c → (m = n ∧ o' = o ∧ c = .cell v') ∨ hget s.h m o' = some c := by
  intro m o' c e
  rw [hget_cons] at e
  split at e
  ·rename_i he; obtain ⟨rfl, rfl⟩ := he; injection e with e; exact .inl ⟨rfl, rfl, e.symm⟩
  ·exact .inr e
 have lv : ∀ m o' c, hget ((n, o, Cont.cell v') :: s.h) m o' = some c → c.live → ∃ c', hget s.h m o' = some c' ∧ c'.live ∧ c'.wd = c.wd := by
  intro m o' c e hl
  rcases get m o' c e with ⟨rfl, rfl, rfl⟩ | h2
  ·exact ⟨_, hc, trivial, rfl⟩
  ·exact ⟨c, h2, hl, rfl⟩
 refine ⟨⟨⟨fun m o' c hm hg => ?_, fun m k x y b hm hk hne' hl hl' hx hy hbx hby => ?_, S.new, S.zero, fun m o1 o2 c1 c2 hm h1 h2 l1 l2 hlt => ?_⟩, fun t v1 ht => ?_, h.ok.size, h.ok.defers⟩, h.fresh, h.pos⟩
 ·rcases get m o' c hg with ⟨rfl, rfl, rfl⟩ | h2
  ·obtain ⟨b, cs, ty, u, h1, h2, h3, h4, h5, h6, h7⟩ := S.cont m o' _ hm hc
   exact ⟨b, cs, ty, u, h1, h2, h3, h4, h5, h6, hv _ _ _ _ h7⟩
  ·exact S.cont m o' c hm h2
 ·obtain ⟨o1, c1, h1, l1⟩ := hl
  obtain ⟨o2, c2, h2, l2⟩ := hl'
  obtain ⟨c1', h1', l1', _⟩ := lv m o1 c1 h1 l1
  obtain ⟨c2', h2', l2', _⟩ := lv k o2 c2 h2 l2
  exact S.dist m k x y b hm hk hne' ⟨o1, c1', h1', l1'⟩ ⟨o2, c2', h2', l2'⟩ hx hy hbx hby
 ·obtain ⟨c1', h1', l1', w1⟩ := lv m o1 c1 h1 l1
  obtain ⟨c2', h2', l2', _⟩ := lv m o2 c2 h2 l2
  rw [← w1]
  exact S.lay m o1 o2 c1' c2' hm h1' h2' l1' l2' hlt
 ·rcases get 0 t _ ht with ⟨rfl, rfl, e1⟩ | h2
  ·injection e1 with e1; subst e1
   obtain ⟨u, h5, h6⟩ := h.ok.slots t _ hc
   exact ⟨u, h5, hv _ _ _ _ h6⟩
  ·exact h.ok.slots t _ h2
theorem vi_nil (sz : Nat) (b : Bool) (f : Nat → AV) : VI .nils (.rs sz 0 b f) := by
 intro ρ ro w x h
 cases h
 exact .rs sz 0 0 b f none (fun _ => []) (Nat.le_refl _) (Nat.zero_le _) (fun _ => rfl) (fun h => absurd h (Nat.lt_irrefl 0)) (fun i hi => absurd hi (Nat.not_lt_zero i)) fun i hi => absurd hi (Nat.not_lt_zero i)
theorem vi_rs {sz n : Nat} {b : Bool} {f f' : Nat → AV} (hf : ∀ i, i < n → f i = f' i) : VI (.rs sz n b f) (.rs sz n false f') := by
 intro ρ ro w x h
 cases h with
 | rs _ _ cap _ _ a vals h1 h2 h3 h4 h5 h6 => exact .rs _ _ cap _ _ a vals h1 h2 (fun e => by cases e) h4 h5 fun i hi => by rw [← hf i hi]; exact h6 i hi
end Go.Eng