/- The engine, part 15c: families of objects that are left aside, of which one comes to hand at a time. -/
import Derived.Test.YtodnecfgiimclaaEngSA
set_option linter.unusedSimpArgs false
set_option linter.unusedVariables false
namespace Go.Eng
structure RenL (B : Nat) (π : Nat → Nat) (s s' : St) : Prop where
 slots : s'.N = s.N
 pos : 0 < s'.nx
 low : ∀ n, n < B → π n = n
 zero : π 0 = 0
 inj : ∀ n m, π n = π m → n = m
 fresh : ∀ n, s'.nx ≤ n → s.nx ≤ π n
 cont : ∀ n o c', hget s'.h n o = some c' → ∃ c, hget s.h (π n) o = some c ∧ CW π c' c
theorem RenL.imp {B : Nat} {π : Nat → Nat} {s s' : St} (k : RenL B π s s') : Imp B s s' := by
 intro mine ρ ro a w h
 have hc := k.cont
 have pos : ∀ n, 0 < n → 0 < π n := by
  intro n hn
  rcases Nat.eq_zero_or_pos (π n) with h0 | h0
  ·have := k.inj n 0 (h0.trans k.zero.symm)
   omega
  ·exact h0
 have lv : ∀ n, live s'.h n → live s.h (π n) := by
  rintro n ⟨o, c', h1, h2⟩
  obtain ⟨c, h3, h4⟩ := hc n o c' h1
  exact ⟨o, c, h3, (h4.live h2).1⟩
 refine ⟨fun n => ρ (π n), ro, ⟨fun n v hn hv => by show ρ (π n) = _; rw [k.low n hn]; exact hv, fun _ h => h, fun _ h => .inl h, fun _ _ => rfl, .refl _ _⟩, ⟨⟨⟨fun n o c' hn hg => ?_, fun n m x y b hn hm hne hln hlm hx hy hbx hby => ?_, h.ok.sim.new, ?_, fun n o o' c1 c2 hn h1 h2 hl1 hl2 hlt => ?_⟩, fun t v ht => ?_, k.slots ▸ h.ok.size, h.ok.defers⟩, fun n hn => h.fresh _ (k.fresh n hn), k.pos⟩⟩
 ·obtain ⟨c, h3, h4⟩ := hc n o c' hg
  exact h4.csim (ρ := ρ) (ρ' := fun n => ρ (π n)) (fun _ => rfl) (h.ok.sim.cont _ _ _ (pos n hn) h3)
 ·exact h.ok.sim.dist _ _ x y b (pos n hn) (pos m hm) (fun e => hne (k.inj _ _ e)) (lv n hln) (lv m hlm) hx hy hbx hby
 ·show ρ (π 0) = none
  rw [k.zero]; exact h.ok.sim.zero
 ·obtain ⟨d1, h3, h4⟩ := hc n o c1 h1
  obtain ⟨d2, h5, h6⟩ := hc n o' c2 h2
  have := h.ok.sim.lay _ o o' d1 d2 (pos n hn) h3 h5 (h4.live hl1).1 (h6.live hl2).1 hlt
  rw [← (h4.live hl1).2]; exact this
 ·obtain ⟨c, h3, h4⟩ := hc 0 t _ ht
  rw [k.zero] at h3
  cases c <;> simp only [CW] at h4 <;> try exact h4.elim
  subst h4
  obtain ⟨u, h5, h6⟩ := h.ok.slots t _ h3
  exact ⟨u, h5, VRel.unren (ρ := ρ) (ρ' := fun n => ρ (π n)) (fun _ => rfl) h6⟩
def swp (k b a n : Nat) : Nat := if b ≤ n ∧ n < b + k then n - b + a else if a ≤ n ∧ n < a + k then n - a + b else n
theorem swp_b {k b a i : Nat} (h : i < k) : swp k b a (b + i) = a + i := by
 unfold swp
 rw [if_pos (by omega)]
 omega
theorem swp_a {k b a i : Nat} (hd : b + k ≤ a) (h : i < k) : swp k b a (a + i) = b + i := by
 unfold swp
 rw [if_neg (by omega), if_pos (by omega)]
 omega
theorem swp_ne {k b a n : Nat} (h1 : ¬ (b ≤ n ∧ n < b + k)) (h2 : ¬ (a ≤ n ∧ n < a + k)) : swp k b a n = n := by
 unfold swp
 rw [if_neg h1, if_neg h2]
theorem swp_swp {k b a : Nat} (hd : b + k ≤ a) (n : Nat) : swp k b a (swp k b a n) = n := by
 unfold swp
 split
 ·rw [if_neg (by omega), if_pos (by omega)]; omega
 ·split
  ·rw [if_pos (by omega)]; omega
  ·rfl
theorem swp_inj {k b a : Nat} (hd : b + k ≤ a) {n m : Nat} (h : swp k b a n = swp k b a m) : n = m := by
 rw [← swp_swp hd n, h, swp_swp hd]
structure Lot {α : Type} (k : Nat) (G : Nat → α → Heap) : Prop where
 names : ∀ b x e, e ∈ G b x → b ≤ e.1 ∧ e.1 < b + k
 eqv : ∀ b b' x m o c', hget (G b' x) m o = some c' → ∃ c, hget (G b x) (m - b' + b) o = some c ∧ ∀ π, (∀ i, i < k → π (b' + i) = b + i) → CW π c' c
section
variable {α : Type} {k : Nat} {G : Nat → α → Heap}
def famH (G : Nat → α → Heap) (k b : Nat) (xs : Nat → α) : Nat → Heap
 | 0 => []
 | n + 1 => famH G k b xs n ++ G (b + k * n) (xs n)
def famX (G : Nat → α → Heap) (k b : Nat) (xs : Nat → α) (p : Nat) : Nat → Heap
 | 0 => []
 | n + 1 => famX G k b xs p n ++ bif n == p then [] else G (b + k * n) (xs n)
theorem famH_mem {b : Nat} {xs : Nat → α} : ∀ {n : Nat} {e : Nat × Nat × Cont}, e ∈ famH G k b xs n → ∃ j, j < n ∧ e ∈ G (b + k * j) (xs j)
 | 0, e, h => by cases h
 | n + 1, e, h => by
   rcases List.mem_append.1 h with h | h
   ·obtain ⟨j, h1, h2⟩ := famH_mem h; exact ⟨j, by omega, h2⟩
   ·exact ⟨n, by omega, h⟩
theorem famX_mem {b : Nat} {xs : Nat → α} {p : Nat} : ∀ {n : Nat} {e : Nat × Nat × Cont}, e ∈ famX G k b xs p n → ∃ j, j < n ∧ j ≠ p ∧ e ∈ G (b + k * j) (xs j)
 | 0, e, h => by cases h
 | n + 1, e, h => by
   rcases List.mem_append.1 h with h | h
   ·obtain ⟨j, h1, h2⟩ := famX_mem h; exact ⟨j, by omega, h2⟩
   ·cases hb : (n == p) with
    | true => rw [hb] at h; cases h
    | false => rw [hb] at h; exact ⟨n, by omega, by simpa using hb, h⟩
theorem lot_ne (L : Lot k G) {b i j : Nat} {x y : α} {e f : Nat × Nat × Cont} (hij : i ≠ j) (he : e ∈ G (b + k * i) x) (hf : f ∈ G (b + k * j) y) : e.1 ≠ f.1 := by
 have h1 := L.names _ _ _ he
 have h2 := L.names _ _ _ hf
 intro heq
 rcases Nat.lt_or_gt_of_ne hij with hlt | hgt
 ·have : k * (i + 1) ≤ k * j := Nat.mul_le_mul_left k hlt
  rw [Nat.mul_add, Nat.mul_one] at this
  omega
 ·have : k * (j + 1) ≤ k * i := Nat.mul_le_mul_left k hgt
  rw [Nat.mul_add, Nat.mul_one] at this
  omega
theorem app_get {h R : Heap} {n o : Nat} {c : Cont} (hR : hget R n o = some c) (hd : ∀ x ∈ h, x.1 ≠ n) : hget (h ++ R) n o = some c := by rw [app_right hd]; exact hR
theorem famH_get (L : Lot k G) {b : Nat} {xs : Nat → α} {m o : Nat} {c : Cont} : ∀ {n j : Nat}, j < n → hget (G (b + k * j) (xs j)) m o = some c → hget (famH G k b xs n) m o = some c
 | 0, j, hj, h => by omega
 | n + 1, j, hj, h => by
   by_cases e : j = n
   ·subst e
    refine app_get h fun x hx => ?_
    obtain ⟨i, h1, h2⟩ := famH_mem hx
    exact lot_ne L (by omega) h2 (hget_in h)
   ·exact app_left (famH_get L (by omega) h)
theorem famX_get (L : Lot k G) {b p : Nat} {xs : Nat → α} {m o : Nat} {c : Cont} : ∀ {n j : Nat}, j < n → j ≠ p → hget (G (b + k * j) (xs j)) m o = some c → hget (famX G k b xs p n) m o = some c
 | 0, j, hj, _, h => by omega
 | n + 1, j, hj, hp, h => by
   by_cases e : j = n
   ·subst e
    have hb : (j == p) = false := by simpa using hp
    show hget (famX G k b xs p j ++ bif j == p then [] else G (b + k * j) (xs j)) m o = _
    rw [hb]
    refine app_get h fun x hx => ?_
    obtain ⟨i, h1, _, h2⟩ := famX_mem hx
    exact lot_ne L (by omega) h2 (hget_in h)
   ·exact app_left (famX_get L (by omega) hp h)
theorem famH_of {b : Nat} {xs : Nat → α} {m o : Nat} {c : Cont} : ∀ {n : Nat}, hget (famH G k b xs n) m o = some c → ∃ j, j < n ∧ hget (G (b + k * j) (xs j)) m o = some c
 | 0, h => by cases h
 | n + 1, h => by
   rcases app_or h with h | h
   ·obtain ⟨i, i1, i2⟩ := famH_of h; exact ⟨i, by omega, i2⟩
   ·exact ⟨n, by omega, h⟩
theorem famX_of {b p : Nat} {xs : Nat → α} {m o : Nat} {c : Cont} : ∀ {n : Nat}, hget (famX G k b xs p n) m o = some c → ∃ j, j < n ∧ j ≠ p ∧ hget (G (b + k * j) (xs j)) m o = some c
 | 0, h => by cases h
 | n + 1, h => by
   rcases app_or h with h | h
   ·obtain ⟨i, i1, i2, i3⟩ := famX_of h; exact ⟨i, by omega, i2, i3⟩
   ·cases hb : (n == p) with
    | true => rw [hb] at h; cases h
    | false => rw [hb] at h; exact ⟨n, by omega, by simpa using hb, h⟩
def slotsB : Heap → Bool
 | [] => true
 | x :: h => x.1 == 0 && slotsB h
def fromB (m : Nat) : Heap → Bool
 | [] => true
 | x :: h => Nat.ble m x.1 && fromB m h
theorem slotsB_get : ∀ {h : Heap}, slotsB h = true → ∀ x ∈ h, x.1 = 0
 | [], _, x, hx => by cases hx
 | y :: h, e, x, hx => by
   simp only [slotsB, Bool.and_eq_true, beq_iff_eq] at e
   rcases List.mem_cons.1 hx with rfl | hx
   ·exact e.1
   ·exact slotsB_get e.2 x hx
theorem fromB_get {m : Nat} : ∀ {h : Heap}, fromB m h = true → ∀ x ∈ h, m ≤ x.1
 | [], _, x, hx => by cases hx
 | y :: h, e, x, hx => by
   simp only [fromB, Bool.and_eq_true] at e
   rcases List.mem_cons.1 hx with rfl | hx
   ·exact Nat.le_of_ble_eq_true e.1
   ·exact fromB_get e.2 x hx
def ConvS (π : Nat → Nat) : Heap → Heap → Prop
 | [], [] => True
 | x :: h, y :: h' => (x.1 = y.1 ∧ x.2.1 = y.2.1 ∧ CW π y.2.2 x.2.2) ∧ ConvS π h h'
 | _, _ => False
theorem ConvS.get {π : Nat → Nat} : ∀ {h h' : Heap}, ConvS π h h' → ∀ {n o : Nat} {c' : Cont}, hget h' n o = some c' → ∃ c, hget h n o = some c ∧ CW π c' c
 | [], [], _, n, o, c', e => by cases e
 | x :: h, y :: h', hc, n, o, c', e => by
   obtain ⟨⟨h1, h2, h3⟩, ht⟩ := hc
   obtain ⟨x1, x2, x3⟩ := x
   obtain ⟨y1, y2, y3⟩ := y
   simp only at h1 h2 h3
   subst h1; subst h2
   rw [hget_cons] at e ⊢
   split at e
   ·rename_i he; rw [if_pos he]; injection e with e; subst e; exact ⟨_, rfl, h3⟩
   ·rename_i he; rw [if_neg he]; exact ConvS.get ht e
 | [], _ :: _, hc, _, _, _, _ => hc.elim
 | _ :: _, [], hc, _, _, _, _ => hc.elim
theorem focusB {B : Nat} (hB0 : 0 < B) (L : Lot k G) {A A' C C' : Heap} {b a n p nx N : Nat} {xs : Nat → α} (hp : p < n) (hb : B ≤ b) (hd : b + k * n ≤ a) (hnx : a + k ≤ nx) (hA : slotsB A = true) (hA' : slotsB A' = true) (hC : ∀ x ∈ C, 0 < x.1 ∧ ¬ (b ≤ x.1 ∧ x.1 < b + k * n) ∧ ¬ (a ≤ x.1 ∧ x.1 < a + k)) (hC' : ∀ x ∈ C', 0 < x.1 ∧ ¬ (b ≤ x.1 ∧ x.1 < b + k * n) ∧ ¬ (a ≤ x.1 ∧ x.1 < a + k))
 (cA : ConvS (swp k (b + k * p) a) A A') (cC : ConvS (swp k (b + k * p) a) C C') : Imp B ⟨(A ++ C) ++ famH G k b xs n, nx, N⟩ ⟨(A' ++ (G a (xs p) ++ C')) ++ famX G k b xs p n, nx, N⟩ := by
 have hkp : k * p + k ≤ k * n := by
  have : k * (p + 1) ≤ k * n := Nat.mul_le_mul_left k hp
  rwa [Nat.mul_add, Nat.mul_one] at this
 have sd : b + k * p + k ≤ a := by omega
 have nACb : ∀ x ∈ A ++ C, ¬ (b ≤ x.1 ∧ x.1 < b + k * n) ∧ ¬ (a ≤ x.1 ∧ x.1 < a + k) := fun x hx => (List.mem_append.1 hx).elim (fun h => by have := slotsB_get hA x h; omega) fun h => (hC x h).2
 refine RenL.imp (π := swp k (b + k * p) a) ⟨rfl, by show 0 < nx; omega, fun n hn => swp_ne (by omega) (by omega), swp_ne (by omega) (by omega), fun n m h => swp_inj sd h, fun n hn => by rw [swp_ne (by have : nx ≤ n := hn; omega) (by have : nx ≤ n := hn; omega)]; exact hn, fun m o c' e => ?_⟩
 rcases app_or e with e | e
 ·rcases app_or e with e | e
  ·have h0 := slotsB_get hA' _ (hget_in e)
   have h0 : m = 0 := h0
   obtain ⟨c, h1, h2⟩ := cA.get e
   exact ⟨c, by rw [swp_ne (by omega) (by omega)]; exact app_left (app_left h1), h2⟩
  ·rcases app_or e with e | e
   ·have h0 : a ≤ m ∧ m < a + k := L.names _ _ _ (hget_in e)
    obtain ⟨c, h1, h2⟩ := L.eqv (b + k * p) a (xs p) m o c' e
    refine ⟨c, ?_, h2 _ fun i hi => swp_a sd hi⟩
    have e1 : swp k (b + k * p) a m = m - a + (b + k * p) := by
     have := swp_a (b := b + k * p) (a := a) sd (i := m - a) (by omega)
     rw [show a + (m - a) = m by omega] at this
     rw [this]; omega
    rw [e1]
    refine app_get (famH_get L hp h1) fun x hx hxe => ?_
    have := nACb x hx; omega
   ·have h0 : 0 < m ∧ ¬ (b ≤ m ∧ m < b + k * n) ∧ ¬ (a ≤ m ∧ m < a + k) := hC' _ (hget_in e)
    obtain ⟨c, h1, h2⟩ := cC.get e
    refine ⟨c, ?_, h2⟩
    rw [swp_ne (by omega) (by omega)]
    refine app_left (app_get h1 fun x hx hxe => ?_)
    have := slotsB_get hA x hx
    omega
 ·obtain ⟨j, j1, j2, j3⟩ := famX_of e
  have h0 : b + k * j ≤ m ∧ m < b + k * j + k := L.names _ _ _ (hget_in j3)
  have hkj : k * j + k ≤ k * n := by
   have : k * (j + 1) ≤ k * n := Nat.mul_le_mul_left k j1
   rwa [Nat.mul_add, Nat.mul_one] at this
  have nope : ¬ (b + k * p ≤ m ∧ m < b + k * p + k) := fun h => by
   rcases Nat.lt_or_gt_of_ne j2 with hlt | hgt
   ·have : k * (j + 1) ≤ k * p := Nat.mul_le_mul_left k hlt
    rw [Nat.mul_add, Nat.mul_one] at this
    omega
   ·have : k * (p + 1) ≤ k * j := Nat.mul_le_mul_left k hgt
    rw [Nat.mul_add, Nat.mul_one] at this
    omega
  have fix : ∀ i, i < k → swp k (b + k * p) a (b + k * j + i) = b + k * j + i := fun i hi => swp_ne (fun h => by
   rcases Nat.lt_or_gt_of_ne j2 with hlt | hgt
   ·have : k * (j + 1) ≤ k * p := Nat.mul_le_mul_left k hlt
    rw [Nat.mul_add, Nat.mul_one] at this
    omega
   ·have : k * (p + 1) ≤ k * j := Nat.mul_le_mul_left k hgt
    rw [Nat.mul_add, Nat.mul_one] at this
    omega) (by omega)
  obtain ⟨c, h1, h2⟩ := L.eqv (b + k * j) (b + k * j) (xs j) m o c' j3
  rw [show m - (b + k * j) + (b + k * j) = m by omega] at h1
  refine ⟨c, ?_, h2 _ fix⟩
  rw [swp_ne nope (by omega)]
  refine app_get (famH_get L j1 h1) fun x hx hxe => ?_
  have := nACb x hx; omega
theorem focus (L : Lot k G) {A A' C C' : Heap} {b a n p nx N : Nat} {xs : Nat → α} (hp : p < n) (hb : 0 < b) (hd : b + k * n ≤ a) (hnx : a + k ≤ nx) (hA : slotsB A = true) (hA' : slotsB A' = true) (hC : fromB (a + k) C = true) (hC' : fromB (a + k) C' = true)
 (cA : ConvS (swp k (b + k * p) a) A A') (cC : ConvS (swp k (b + k * p) a) C C') : Imp 1 ⟨(A ++ C) ++ famH G k b xs n, nx, N⟩ ⟨(A' ++ (G a (xs p) ++ C')) ++ famX G k b xs p n, nx, N⟩ :=
 focusB (Nat.lt_succ_self 0) L hp hb hd hnx hA hA' (fun x hx => by have := fromB_get hC x hx; omega) (fun x hx => by have := fromB_get hC' x hx; omega) cA cC
def updF (xs : Nat → α) (p : Nat) (y : α) : Nat → α := fun i => bif i == p then y else xs i
theorem updF_at (xs : Nat → α) (p : Nat) (y : α) : updF xs p y p = y := by simp [updF]
theorem updF_ne (xs : Nat → α) {p i : Nat} (y : α) (h : i ≠ p) : updF xs p y i = xs i := by
 have : (i == p) = false := by simpa using h
 simp [updF, this]
theorem unfocusB {B : Nat} (hB0 : 0 < B) (L : Lot k G) {A A' C C' : Heap} {b a n p nx N : Nat} {xs : Nat → α} {y : α} (hp : p < n) (hb : B ≤ b) (hd : b + k * n ≤ a) (hnx : a + k ≤ nx) (hA : slotsB A = true) (hA' : slotsB A' = true) (hC : ∀ x ∈ C, 0 < x.1 ∧ ¬ (b ≤ x.1 ∧ x.1 < b + k * n) ∧ ¬ (a ≤ x.1 ∧ x.1 < a + k)) (hC' : ∀ x ∈ C', 0 < x.1 ∧ ¬ (b ≤ x.1 ∧ x.1 < b + k * n) ∧ ¬ (a ≤ x.1 ∧ x.1 < a + k))
 (cA : ConvS (swp k (b + k * p) a) A A') (cC : ConvS (swp k (b + k * p) a) C C') : Imp B ⟨(A ++ (G a y ++ C)) ++ famX G k b xs p n, nx, N⟩ ⟨(A' ++ C') ++ famH G k b (updF xs p y) n, nx, N⟩ := by
 have hkp : k * p + k ≤ k * n := by
  have : k * (p + 1) ≤ k * n := Nat.mul_le_mul_left k hp
  rwa [Nat.mul_add, Nat.mul_one] at this
 have sd : b + k * p + k ≤ a := by omega
 have nA : ∀ x ∈ A, x.1 = 0 := slotsB_get hA
 have nC := hC
 have nG : ∀ x ∈ G a y, a ≤ x.1 ∧ x.1 < a + k := L.names a y
 refine RenL.imp (π := swp k (b + k * p) a) ⟨rfl, by show 0 < nx; omega, fun n hn => swp_ne (by omega) (by omega), swp_ne (by omega) (by omega), fun n m h => swp_inj sd h, fun n hn => by rw [swp_ne (by have : nx ≤ n := hn; omega) (by have : nx ≤ n := hn; omega)]; exact hn, fun m o c' e => ?_⟩
 rcases app_or e with e | e
 ·rcases app_or e with e | e
  ·have h0 : m = 0 := slotsB_get hA' _ (hget_in e)
   obtain ⟨c, h1, h2⟩ := cA.get e
   exact ⟨c, by rw [swp_ne (by omega) (by omega)]; exact app_left (app_left h1), h2⟩
  ·have h0 : 0 < m ∧ ¬ (b ≤ m ∧ m < b + k * n) ∧ ¬ (a ≤ m ∧ m < a + k) := hC' _ (hget_in e)
   obtain ⟨c, h1, h2⟩ := cC.get e
   refine ⟨c, ?_, h2⟩
   rw [swp_ne (by omega) (by omega)]
   refine app_left (app_get (app_get h1 fun x hx hxe => ?_) fun x hx hxe => ?_)
   ·have := nG x hx; omega
   ·have := nA x hx; omega
 ·obtain ⟨j, j1, j3⟩ := famH_of e
  have h0 : b + k * j ≤ m ∧ m < b + k * j + k := L.names _ _ _ (hget_in j3)
  by_cases hj : j = p
  ·subst hj
   rw [updF_at] at j3
   obtain ⟨c, h1, h2⟩ := L.eqv a (b + k * j) y m o c' j3
   refine ⟨c, ?_, h2 _ fun i hi => swp_b hi⟩
   have e1 : swp k (b + k * j) a m = m - (b + k * j) + a := by
    have := swp_b (k := k) (b := b + k * j) (a := a) (i := m - (b + k * j)) (by omega)
    rw [show b + k * j + (m - (b + k * j)) = m by omega] at this
    rw [this]; omega
   rw [e1]
   refine app_left (app_get (app_left h1) fun x hx hxe => ?_)
   have := nA x hx; omega
  ·rw [updF_ne xs y hj] at j3
   have hkj : k * j + k ≤ k * n := by
    have : k * (j + 1) ≤ k * n := Nat.mul_le_mul_left k j1
    rwa [Nat.mul_add, Nat.mul_one] at this
   have far : k * j + k ≤ k * p ∨ k * p + k ≤ k * j := by
    rcases Nat.lt_or_gt_of_ne hj with hlt | hgt
    ·have : k * (j + 1) ≤ k * p := Nat.mul_le_mul_left k hlt
     rw [Nat.mul_add, Nat.mul_one] at this
     exact .inl this
    ·have : k * (p + 1) ≤ k * j := Nat.mul_le_mul_left k hgt
     rw [Nat.mul_add, Nat.mul_one] at this
     exact .inr this
   obtain ⟨c, h1, h2⟩ := L.eqv (b + k * j) (b + k * j) (xs j) m o c' j3
   rw [show m - (b + k * j) + (b + k * j) = m by omega] at h1
   refine ⟨c, ?_, h2 _ fun i hi => swp_ne (by omega) (by omega)⟩
   rw [swp_ne (by omega) (by omega)]
   refine app_get (famX_get L j1 hj h1) fun x hx hxe => ?_
   rcases List.mem_append.1 hx with hx | hx
   ·have := nA x hx; omega
   ·rcases List.mem_append.1 hx with hx | hx
    ·have := nG x hx; omega
    ·have := nC x hx; omega
theorem unfocus (L : Lot k G) {A A' C C' : Heap} {b a n p nx N : Nat} {xs : Nat → α} {y : α} (hp : p < n) (hb : 0 < b) (hd : b + k * n ≤ a) (hnx : a + k ≤ nx) (hA : slotsB A = true) (hA' : slotsB A' = true) (hC : fromB (a + k) C = true) (hC' : fromB (a + k) C' = true)
 (cA : ConvS (swp k (b + k * p) a) A A') (cC : ConvS (swp k (b + k * p) a) C C') : Imp 1 ⟨(A ++ (G a y ++ C)) ++ famX G k b xs p n, nx, N⟩ ⟨(A' ++ C') ++ famH G k b (updF xs p y) n, nx, N⟩ :=
 unfocusB (Nat.lt_succ_self 0) L hp hb hd hnx hA hA' (fun x hx => by have := fromB_get hC x hx; omega) (fun x hx => by have := fromB_get hC' x hx; omega) cA cC
def jn (k b a nx m : Nat) : Nat := if b ≤ m ∧ m < b + k then m - b + a else if a ≤ m then m + nx else m
theorem collectB {B : Nat} (hB0 : 0 < B) (L : Lot k G) {A A' C C' : Heap} {b a n nx nx' N : Nat} {xs : Nat → α} {y : α} (hb : B ≤ b) (hd : b + k * (n + 1) ≤ a) (hnx : a + k ≤ nx) (hnx' : a ≤ nx') (hA : slotsB A = true) (hA' : slotsB A' = true) (hC : ∀ x ∈ C, 0 < x.1 ∧ ¬ (b ≤ x.1 ∧ x.1 < b + k * (n + 1)) ∧ x.1 < a) (hC' : ∀ x ∈ C', 0 < x.1 ∧ ¬ (b ≤ x.1 ∧ x.1 < b + k * (n + 1)) ∧ x.1 < a)
 (cA : ConvS (jn k (b + k * n) a nx) A A') (cC : ConvS (jn k (b + k * n) a nx) C C') : Imp B ⟨(A ++ (C ++ G a y)) ++ famH G k b xs n, nx, N⟩ ⟨(A' ++ C') ++ famH G k b (updF xs n y) (n + 1), nx', N⟩ := by
 rw [Nat.mul_add, Nat.mul_one] at hd
 simp only [Nat.mul_add, Nat.mul_one] at hC hC'
 have nA : ∀ x ∈ A, x.1 = 0 := slotsB_get hA
 have nG : ∀ x ∈ G a y, a ≤ x.1 ∧ x.1 < a + k := L.names a y
 have j0 : ∀ m, m < a → ¬ (b + k * n ≤ m ∧ m < b + k * n + k) → jn k (b + k * n) a nx m = m := fun m h1 h2 => by unfold jn; rw [if_neg h2, if_neg (by omega)]
 have j1 : ∀ i, i < k → jn k (b + k * n) a nx (b + k * n + i) = a + i := fun i hi => by unfold jn; rw [if_pos (by omega)]; omega
 refine RenL.imp (π := jn k (b + k * n) a nx) ⟨rfl, by show 0 < nx'; omega, fun m hm => j0 m (by omega) (by omega), j0 0 (by omega) (by omega), fun m m' h => ?_, fun m hm => ?_, fun m o c' e => ?_⟩
 ·unfold jn at h
  split at h <;> split at h <;> (try split at h) <;> (try split at h) <;> omega
 ·unfold jn
  have : nx' ≤ m := hm
  rw [if_neg (by omega), if_pos (by omega)]
  show nx ≤ m + nx
  omega
 rcases app_or e with e | e
 ·rcases app_or e with e | e
  ·have h0 : m = 0 := slotsB_get hA' _ (hget_in e)
   obtain ⟨c, h1, h2⟩ := cA.get e
   exact ⟨c, by rw [j0 m (by omega) (by omega)]; exact app_left (app_left h1), h2⟩
  ·have h0 := hC' _ (hget_in e)
   simp only at h0
   obtain ⟨c, h1, h2⟩ := cC.get e
   refine ⟨c, ?_, h2⟩
   rw [j0 m (by omega) (by omega)]
   refine app_left (app_get (app_left h1) fun x hx hxe => ?_)
   have := nA x hx; omega
 ·obtain ⟨j, q1, q3⟩ := famH_of e
  have h0 : b + k * j ≤ m ∧ m < b + k * j + k := L.names _ _ _ (hget_in q3)
  by_cases hj : j = n
  ·subst hj
   rw [updF_at] at q3
   obtain ⟨c, h1, h2⟩ := L.eqv a (b + k * j) y m o c' q3
   refine ⟨c, ?_, h2 _ fun i hi => j1 i hi⟩
   have e1 : jn k (b + k * j) a nx m = m - (b + k * j) + a := by
    have := j1 (m - (b + k * j)) (by omega)
    rw [show b + k * j + (m - (b + k * j)) = m by omega] at this
    rw [this]; omega
   rw [e1]
   refine app_left (app_get (app_get h1 fun x hx hxe => ?_) fun x hx hxe => ?_)
   ·have := hC x hx; omega
   ·have := nA x hx; omega
  ·rw [updF_ne xs y hj] at q3
   have hkj : k * j + k ≤ k * n := by
    have : k * (j + 1) ≤ k * n := Nat.mul_le_mul_left k (by omega)
    rwa [Nat.mul_add, Nat.mul_one] at this
   obtain ⟨c, h1, h2⟩ := L.eqv (b + k * j) (b + k * j) (xs j) m o c' q3
   rw [show m - (b + k * j) + (b + k * j) = m by omega] at h1
   refine ⟨c, ?_, h2 _ fun i hi => j0 _ (by omega) (by omega)⟩
   rw [j0 m (by omega) (by omega)]
   refine app_get (famH_get L (by omega) h1) fun x hx hxe => ?_
   rcases List.mem_append.1 hx with hx | hx
   ·have := nA x hx; omega
   ·rcases List.mem_append.1 hx with hx | hx
    ·have := hC x hx; omega
    ·have := nG x hx; omega
theorem collect (L : Lot k G) {A A' C C' : Heap} {b a n nx nx' N : Nat} {xs : Nat → α} {y : α} (hb : 0 < b) (hd : b + k * (n + 1) ≤ a) (hnx : a + k ≤ nx) (hnx' : a ≤ nx') (hA : slotsB A = true) (hA' : slotsB A' = true) (hC : ∀ x ∈ C, b + k * (n + 1) ≤ x.1 ∧ x.1 < a) (hC' : ∀ x ∈ C', b + k * (n + 1) ≤ x.1 ∧ x.1 < a)
 (cA : ConvS (jn k (b + k * n) a nx) A A') (cC : ConvS (jn k (b + k * n) a nx) C C') : Imp 1 ⟨(A ++ (C ++ G a y)) ++ famH G k b xs n, nx, N⟩ ⟨(A' ++ C') ++ famH G k b (updF xs n y) (n + 1), nx', N⟩ :=
 collectB (Nat.lt_succ_self 0) L hb hd hnx hnx' hA hA' (fun x hx => by have := hC x hx; omega) (fun x hx => by have := hC' x hx; omega) cA cC
theorem Imp.up {B : Nat} {s : St} {h' : Heap} {nx' N' : Nat} (hh : h' = s.h) (hn : s.nx ≤ nx') (hN : N' = s.N) : Imp B s ⟨h', nx', N'⟩ := by
 subst hh; subst hN
 exact fun mine ρ ro a w H => ⟨ρ, ro, .refl _ _ _ _ _, ⟨H.ok, fun n hn' => H.fresh n (Nat.le_trans hn hn'), Nat.lt_of_lt_of_le H.pos hn⟩⟩
def coreB (B' : Nat) : Heap → Bool
 | [] => true
 | x :: h => (x.1 == 0 || Nat.ble B' x.1) && coreB B' h
theorem coreB_get {m : Nat} : ∀ {h : Heap}, coreB m h = true → ∀ x ∈ h, x.1 = 0 ∨ m ≤ x.1
 | [], _, x, hx => by cases hx
 | y :: h, e, x, hx => by
   simp only [coreB, Bool.and_eq_true, Bool.or_eq_true, beq_iff_eq] at e
   rcases List.mem_cons.1 hx with rfl | hx
   ·exact e.1.imp id Nat.le_of_ble_eq_true
   ·exact coreB_get e.2 x hx
theorem Sem.frameC {P : Program} {B B' m : Nat} {R : Heap} {c : Code} {Q : Exit → St → Prop} {s : St} (hB : Nat.ble B B' = true) (hm : Nat.ble m B' = true) (hR : ∀ x ∈ R, 0 < x.1 ∧ x.1 < m ∧ ContLow m x.2.2) (hc : coreB m s.h = true) (hl : ∀ x ∈ R, ContLow B' x.2.2) (h : Sem P B' c (SFrame R Q) s) : Sem P B c Q (s.app R) :=
 Sem.frame (Nat.le_of_ble_eq_true hB) (fun x hx => ⟨(hR x hx).1, Nat.lt_of_lt_of_le (hR x hx).2.1 (Nat.le_of_ble_eq_true hm), hl x hx⟩) (fun x hx y hy => by
  have := hR y hy
  rcases coreB_get hc x hx with h | h <;> omega) h
theorem famH_low (L : Lot k G) {b n B : Nat} {xs : Nat → α} (hb : 0 < b) (hB : b + k * n ≤ B) (hl : ∀ j, j < n → ∀ e ∈ G (b + k * j) (xs j), ContLow B e.2.2) : ∀ x ∈ famH G k b xs n, 0 < x.1 ∧ x.1 < B ∧ ContLow B x.2.2 := by
 intro x hx
 obtain ⟨j, h1, h2⟩ := famH_mem hx
 have h0 := L.names _ _ _ h2
 have : k * (j + 1) ≤ k * n := Nat.mul_le_mul_left k h1
 rw [Nat.mul_add, Nat.mul_one] at this
 exact ⟨by omega, by omega, hl j h1 x h2⟩
theorem famX_low (L : Lot k G) {b n B p : Nat} {xs : Nat → α} (hb : 0 < b) (hB : b + k * n ≤ B) (hl : ∀ j, j < n → ∀ e ∈ G (b + k * j) (xs j), ContLow B e.2.2) : ∀ x ∈ famX G k b xs p n, 0 < x.1 ∧ x.1 < B ∧ ContLow B x.2.2 := by
 intro x hx
 obtain ⟨j, h1, _, h2⟩ := famX_mem hx
 have h0 := L.names _ _ _ h2
 have : k * (j + 1) ≤ k * n := Nat.mul_le_mul_left k h1
 rw [Nat.mul_add, Nat.mul_one] at this
 exact ⟨by omega, by omega, hl j h1 x h2⟩
end
def SCut {ι : Type} (B : Nat) (S : ι → St) (Q : Exit → St → Prop) : Exit → St → Prop
 | .normal, s => ∃ i, Imp B s (S i)
 | e, s => Q e s
theorem sem_cutS {P : Program} {B : Nat} {Q : Exit → St → Prop} {s : St} {a b : Code} {ι : Type} (S : ι → St) (h : Sem P B a (SCut B S Q) s) (hb : ∀ i, Sem P B b Q (S i)) : Sem P B a (SThen P B b Q) s := by
 refine h.mono fun e s' h' => ?_
 cases e with
 | normal => obtain ⟨i, hi⟩ := h'; exact Sem.wk hi (hb i)
 | _ => exact h'
section
variable {B : Nat} {Q : Exit → St → Prop} {s : St} {ι : Type} {S : ι → St}
theorem scut_normal (i : ι) (h : Imp B s (S i)) : SCut B S Q .normal s := ⟨i, h⟩
end
def pin (n : Nat) (s : Spec) : Spec := fun args hr nb => match args with
 | v :: rest => (s (.ptr n 0 :: rest) hr nb).map fun out => ⟨(v = .ptr n 0) :: out.sides, out.val, out.rd, out.up⟩
 | [] => none
theorem pin_ok {P : Program} {f : Nat} {s : Spec} (n : Nat) (h : SpecOK P f s) : SpecOK P f (pin n s) := by
 refine ⟨h.1, fun args hr nb out e => ?_, fun mine ρ ro hp w args xs hr nb out S hargs e hrd hs hnb hfr => ?_⟩
 ·cases args with
  | nil => cases e
  | cons v rest =>
    obtain ⟨o, h1, rfl⟩ := Option.map_eq_some_iff.1 e
    exact h.2.1 _ _ _ o h1
 ·cases args with
  | nil => cases e
  | cons v rest =>
    obtain ⟨o, h1, rfl⟩ := Option.map_eq_some_iff.1 e
    have hv : v = .ptr n 0 := hs _ List.mem_cons_self
    subst hv
    exact h.2.2 mine ρ ro hp w _ xs hr nb o S hargs h1 hrd (fun q hq => hs q (List.mem_cons_of_mem _ hq)) hnb hfr
end Go.Eng