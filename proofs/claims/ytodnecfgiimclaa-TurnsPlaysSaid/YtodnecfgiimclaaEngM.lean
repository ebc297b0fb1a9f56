/- The engine, part 13: a region whose order is drawn. -/
import Derived.Test.YtodnecfgiimclaaEngL
set_option linter.unusedSimpArgs false
set_option linter.unusedVariables false
namespace Go.Eng
def heapOf (D : Nat → Bool) : Nat → List Ent → Heap → Heap
 | _, [], h => h
 | i, e :: l, h => heapOf D (i + 1) l (bif D i then hput h e.up else h)
theorem hget_hput_not {n o : Nat} : ∀ (u : List (Nat × Nat × Cont)) (h : Heap), keyIn (n, o) (upKeys u) = false → hget (hput h u) n o = hget h n o
 | [], _, _ => rfl
 | (n', o', c) :: u, h, e => by
   simp only [upKeys, List.map_cons, keyIn, Bool.or_eq_false_iff] at e
   simp only [hput]
   rw [hget_hput_not u _ e.2, hget_cons, if_neg (fun hh => by obtain ⟨rfl, rfl⟩ := hh; simp at e)]
theorem hget_hput_in {n o : Nat} : ∀ (u : List (Nat × Nat × Cont)) (h h' : Heap), keyIn (n, o) (upKeys u) = true → hget (hput h u) n o = hget (hput h' u) n o
 | [], _, _, e => by cases e
 | (n', o', c) :: u, h, h', e => by
   simp only [hput]
   cases hk : keyIn (n, o) (upKeys u) with
   | true => exact hget_hput_in u _ _ hk
   | false =>
     rw [hget_hput_not u _ hk, hget_hput_not u _ hk, hget_cons, hget_cons]
     simp only [upKeys, List.map_cons, keyIn] at e hk
     rw [hk, Bool.or_false, Bool.and_eq_true, beq_iff_eq, beq_iff_eq] at e
     rw [if_pos e, if_pos e]
theorem hget_hput_base {n o : Nat} (u : List (Nat × Nat × Cont)) {h h' : Heap} (e : hget h n o = hget h' n o) : hget (hput h u) n o = hget (hput h' u) n o := by
 cases hk : keyIn (n, o) (upKeys u) with
 | true => exact hget_hput_in u _ _ hk
 | false => rw [hget_hput_not u _ hk, hget_hput_not u _ hk]; exact e
theorem heapOf_agree {D D' : Nat → Bool} {n o : Nat} : ∀ (l : List Ent) (i : Nat) (h h' : Heap), hget h n o = hget h' n o → (∀ (k : Nat) (e : Ent), l[k]? = some e → keyIn (n, o) (upKeys e.up) = true → D (i + k) = D' (i + k)) →
 hget (heapOf D i l h) n o = hget (heapOf D' i l h') n o
 | [], _, _, _, e, _ => e
 | x :: l, i, h, h', e, hD => by
   simp only [heapOf]
   refine heapOf_agree l (i + 1) _ _ ?_ (fun k y hk hy => by have := hD (k + 1) y (by simpa using hk) hy; rwa [show i + 1 + k = i + (k + 1) by omega])
   cases hk : keyIn (n, o) (upKeys x.up) with
   | true =>
     have := hD 0 x rfl hk
     rw [Nat.add_zero] at this
     rw [this]
     cases D' i with
     | true => exact hget_hput_base _ e
     | false => exact e
   | false =>
     have : ∀ (b : Bool) (g : Heap), hget (bif b then hput g x.up else g) n o = hget g n o := fun b g => by
      cases b with
      | true => exact hget_hput_not _ _ hk
      | false => rfl
     rw [this, this]; exact e
def addD (D : Nat → Bool) (i : Nat) : Nat → Bool := fun j => D j || j == i
theorem heapOf_add {D : Nat → Bool} {n o i : Nat} (hi : D i = false) : ∀ (l : List Ent) (k0 : Nat) (h : Heap) (x : Ent), k0 ≤ i → l[i - k0]? = some x → (keyIn (n, o) (upKeys x.up) = true → ∀ (k : Nat) (e : Ent), l[k]? = some e → keyIn (n, o) (upKeys e.up) = true → D (k0 + k) = true → k0 + k < i) →
 hget (heapOf (addD D i) k0 l h) n o = hget (hput (heapOf D k0 l h) x.up) n o
 | [], _, _, _, _, hx, _ => by simp at hx
 | y :: l, k0, h, x, hle, hx, hw => by
   by_cases hk : k0 = i
   ·subst hk
    simp at hx
    subst hx
    simp only [heapOf, addD, hi, Bool.false_or, BEq.rfl, cond_true, cond_false]
    cases hkey : keyIn (n, o) (upKeys y.up) with
    | true =>
      have e1 : hget (heapOf (addD D k0) (k0 + 1) l (hput h y.up)) n o = hget (heapOf (fun _ => false) (k0 + 1) l (hput h y.up)) n o :=
       heapOf_agree l (k0 + 1) _ _ rfl fun k e hk hke => by
        have hne : (k0 + 1 + k == k0) = false := by simp; omega
        cases hD : D (k0 + 1 + k) with
        | false => simp [addD, hD]; omega
        | true => have := hw hkey (k + 1) e (by simpa using hk) hke (by rwa [show k0 + (k + 1) = k0 + 1 + k by omega]); omega
      have e2 : ∀ (l : List Ent) (k : Nat) (h : Heap), heapOf (fun _ => false) k l h = h := by
       intro l
       induction l with
       | nil => intro k h; rfl
       | cons z l ih => intro k h; simp only [heapOf, cond_false]; exact ih _ _
      rw [e1, e2]
      exact hget_hput_in _ _ _ hkey
    | false =>
      rw [hget_hput_not _ _ hkey]
      refine heapOf_agree l (k0 + 1) _ _ (hget_hput_not _ _ hkey) fun k e hk hke => ?_
      have hne : (k0 + 1 + k == k0) = false := by simp; omega
      simp [addD, hne]
   ·simp only [heapOf]
    have hadd : addD D i k0 = D k0 := by simp [addD, hk]
    rw [hadd]
    refine heapOf_add hi l (k0 + 1) _ x (by omega) (by rw [← hx, show i - k0 = i - (k0 + 1) + 1 by omega]; rfl) fun hkey k e hk hke hD => ?_
    have := hw hkey (k + 1) e (by simpa using hk) hke (by rwa [show k0 + (k + 1) = k0 + 1 + k by omega])
    omega
theorem keyIn_mem {k : Nat × Nat} : ∀ {l : List (Nat × Nat)}, keyIn k l = true ↔ k ∈ l
 | [] => by simp [keyIn]
 | x :: l => by
   obtain ⟨a, b⟩ := x
   obtain ⟨c, d⟩ := k
   simp only [keyIn, Bool.or_eq_true, Bool.and_eq_true, beq_iff_eq, List.mem_cons, Prod.mk.injEq, keyIn_mem (l := l)]
   constructor
   ·rintro (⟨h1, h2⟩ | h); exact .inl ⟨h1.symm, h2.symm⟩; exact .inr h
   ·rintro (⟨h1, h2⟩ | h); exact .inl ⟨h1.symm, h2.symm⟩; exact .inr h
def depsOf (o : Oper) : List Nat := o.after.toList.filterMap fun e => bif Region.binds .any e then some e.on else none
theorem mem_deps {o : Oper} {e : Edge} (he : e ∈ o.after) (hb : Region.binds .any e = true) : e.on ∈ depsOf o := by
 unfold depsOf
 exact List.mem_filterMap.2 ⟨e, by simpa using he, by simp [hb]⟩
def ClosedD (ops : Array Oper) (D : Nat → Bool) : Prop := ∀ (i : Nat) (o : Oper), ops[i]? = some o → D i = true → ∀ d ∈ depsOf o, D d = true
theorem predsL_spec : ∀ (l : List Oper) (acc : List (List Nat)) (D : Nat → Bool), (∀ (k : Nat) (o : Oper), l[k]? = some o → (D (acc.length + k) = true → ∀ d ∈ depsOf o, D d = true)) →
 (∀ k, D k = true → ∀ d ∈ acc.getD k [], D d = true) → ∀ k, D k = true → ∀ d ∈ (predsL acc l).getD k [], D d = true
 | [], acc, D, _, ha, k, hk, d, hd => ha k hk d hd
 | o :: l, acc, D, ho, ha, k, hk, d, hd => by
   simp only [predsL] at hd
   refine predsL_spec l _ D (fun k o' hk' hD => ?_) (fun k hD d hd => ?_) k hk d hd
   ·exact ho (k + 1) o' (by simpa using hk') (by simp at hD; rwa [show acc.length + (k + 1) = acc.length + 1 + k by omega])
   ·by_cases hkl : k < acc.length
    ·refine ha k hD d ?_
     simp only [List.getD, List.getElem?_append_left hkl] at hd ⊢
     exact hd
    ·by_cases hke : k = acc.length
     ·subst hke
      have h0 := ho 0 o rfl
      rw [Nat.add_zero] at h0
      have hdeps := h0 hD
      simp only [List.getD, List.getElem?_append_right (Nat.le_refl _), Nat.sub_self, List.getElem?_cons_zero, Option.getD_some, List.mem_append, List.mem_flatMap] at hd
      rcases hd with hd | ⟨j, hj, hd⟩
      ·exact hdeps d hd
      ·exact ha j (hdeps j hj) d hd
     ·have : (acc ++ [let d := o.after.toList.filterMap fun e => bif Region.binds .any e then some e.on else none; d ++ d.flatMap fun j => acc.getD j []]).getD k [] = [] := by
       rw [List.getD, List.getElem?_eq_none (by simp; omega)]; rfl
      rw [this] at hd
      cases hd
theorem predsL_ready {ops : Array Oper} {D : Nat → Bool} (hD : ClosedD ops D) {i : Nat} {o : Oper} (ho : ops[i]? = some o) (hr : ∀ d ∈ depsOf o, D d = true) (hlt : ∀ d ∈ depsOf o, d < i) : ∀ d ∈ (predsL [] ops.toList).getD i [], D d = true ∨ d = i := by
 -- the set with i besides is closed
 intro d hd
 have hcl : ∀ (k : Nat) (o' : Oper), ops.toList[k]? = some o' → ((fun j => D j || j == i) (([] : List (List Nat)).length + k) = true → ∀ d ∈ depsOf o', (fun j => D j || j == i) d = true) := by
  intro k o' hk hDk d hd
  simp only [List.length_nil, Nat.zero_add, Bool.or_eq_true, beq_iff_eq] at hDk ⊢
  rw [Array.getElem?_toList] at hk
  rcases hDk with hDk | rfl
  ·exact .inl (hD k o' hk hDk d hd)
  ·rw [ho] at hk
   injection hk with hk
   subst hk
   exact .inl (hr d hd)
 have := predsL_spec ops.toList [] (fun j => D j || j == i) hcl (fun k _ d hd => by simp at hd) i (by simp) d hd
 simpa using this
theorem apartL_spec {ps : List (List Nat)} {i : Nat} {e : Ent} : ∀ (l : List Ent) (j : Nat), apartL ps i e j l = true → ∀ (k : Nat) (f : Ent), l[k]? = some f →
 i ∈ ps.getD (j + k) [] ∨ ((∀ x ∈ upKeys f.up, keyIn x e.rd = false ∧ keyIn x (upKeys e.up) = false) ∧ ∀ x ∈ upKeys e.up, keyIn x f.rd = false)
 | [], _, _, k, f, h => by simp at h
 | g :: l, j, h, k, f, hk => by
   simp only [apartL, Bool.and_eq_true] at h
   cases k with
   | zero =>
     simp at hk
     subst hk
     have h1 := h.1
     simp only [Bool.or_eq_true, Bool.and_eq_true, Bool.not_eq_true', List.any_eq_false, Bool.or_eq_true, not_or, Bool.not_eq_true] at h1
     rcases h1.symm with h1 | ⟨h1, h2⟩
     ·left; simpa using h1
     ·exact .inr ⟨fun x hx => h1 x hx, fun x hx => by simpa using h2 x hx⟩
   | succ k =>
     have := apartL_spec l (j + 1) h.2 k f (by simpa using hk)
     rwa [show j + 1 + k = j + (k + 1) by omega] at this
theorem allApart_spec {ps : List (List Nat)} : ∀ (l : List Ent) (i0 : Nat), allApart ps i0 l = true → ∀ (i j : Nat) (e f : Ent), i < j → l[i]? = some e → l[j]? = some f →
 (i0 + i) ∈ ps.getD (i0 + j) [] ∨ ((∀ x ∈ upKeys f.up, keyIn x e.rd = false ∧ keyIn x (upKeys e.up) = false) ∧ ∀ x ∈ upKeys e.up, keyIn x f.rd = false)
 | [], _, _, i, j, e, f, _, he, _ => by simp at he
 | g :: l, i0, h, i, j, e, f, hij, he, hf => by
   simp only [allApart, Bool.and_eq_true] at h
   cases i with
   | zero =>
     simp at he
     subst he
     have := apartL_spec l (i0 + 1) h.1 (j - 1) f (by rw [← hf, show j = j - 1 + 1 by omega]; simp)
     rwa [show i0 + 1 + (j - 1) = i0 + j by omega] at this
   | succ i =>
     have := allApart_spec l (i0 + 1) h.2 i (j - 1) e f (by omega) (by simpa using he) (by rw [← hf, show j = j - 1 + 1 by omega]; simp)
     rwa [show i0 + 1 + i = i0 + (i + 1) by omega, show i0 + 1 + (j - 1) = i0 + j by omega] at this
theorem edges_lt : ∀ (l : List Oper) (k0 : Nat), edgesOK k0 l = true → ∀ (k : Nat) (o : Oper), l[k]? = some o → ∀ d ∈ depsOf o, d < k0 + k
 | [], _, _, k, o, h => by simp at h
 | x :: l, k0, h, k, o, hk => by
   intro d hd
   simp only [edgesOK, Bool.and_eq_true] at h
   cases k with
   | zero =>
     simp at hk
     subst hk
     obtain ⟨y, hy, hyd⟩ := List.mem_filterMap.1 hd
     have := List.all_eq_true.1 h.1 y hy
     cases hb : Region.binds .any y with
     | false => simp [hb] at hyd
     | true => simp [hb] at hyd this; subst hyd; simpa using this
   | succ k => have := edges_lt l (k0 + 1) h.2 k o (by simpa using hk) d hd; omega
theorem agree {ops : Array Oper} {ents : List Ent} (hok : drawOK ops ents = true) {D : Nat → Bool} (hD : ClosedD ops D) {i : Nat} {o : Oper} (ho : ops[i]? = some o) (hi : D i = false) (hr : ∀ d ∈ depsOf o, D d = true) {e : Ent} (he : ents[i]? = some e)
 {key : Nat × Nat} (hk : keyIn key e.rd = true ∨ keyIn key (upKeys e.up) = true) {j : Nat} {f : Ent} (hf : ents[j]? = some f) (hkj : keyIn key (upKeys f.up) = true) (hne : j ≠ i) : D j = true ↔ j < i := by
 simp only [drawOK, Bool.and_eq_true] at hok
 have hcl : ∀ (k : Nat) (o' : Oper), ops.toList[k]? = some o' → (D (([] : List (List Nat)).length + k) = true → ∀ d ∈ depsOf o', D d = true) := by
  intro k o' hk' hDk d hd
  simp only [List.length_nil, Nat.zero_add] at hDk
  rw [Array.getElem?_toList] at hk'
  exact hD k o' hk' hDk d hd
 have hdl : ∀ d ∈ depsOf o, d < i := fun d hd => by
  have := edges_lt ops.toList 0 hok.1 i o (by rw [Array.getElem?_toList]; exact ho) d hd
  omega
 rcases Nat.lt_or_gt_of_ne hne with hji | hij
 ·have := allApart_spec ents 0 hok.2 j i f e hji hf he
  simp only [Nat.zero_add] at this
  rcases this with hp | ⟨h1, h2⟩
  ·rcases predsL_ready hD ho hr hdl j hp with h | h
   ·exact ⟨fun _ => hji, fun _ => h⟩
   ·exact absurd h hne
  ·exfalso
   rcases hk with hk | hk
   ·have := h2 key (keyIn_mem.1 hkj); rw [this] at hk; cases hk
   ·have := (h1 key (keyIn_mem.1 hk)).2; rw [this] at hkj; cases hkj
 ·have := allApart_spec ents 0 hok.2 i j e f hij he hf
  simp only [Nat.zero_add] at this
  rcases this with hp | ⟨h1, h2⟩
  ·refine ⟨fun hj => ?_, fun h => by omega⟩
   have := predsL_spec ops.toList [] D hcl (fun k _ d hd => by simp at hd) j hj i hp
   rw [hi] at this; cases this
  ·exfalso
   have h3 := h1 key (keyIn_mem.1 hkj)
   rcases hk with hk | hk
   ·rw [h3.1] at hk; cases hk
   ·rw [h3.2] at hk; cases hk
theorem evOps_spec {T : Tab} {Γ : Specs} {ops : Array Oper} {dec : List (Nat × Bool)} {nx N : Nat} : ∀ (l : List Oper) (i : Nat) (h h' : Heap) (ps : List Prop) (es : List Ent), evOps T Γ ops nx N dec i l h = some (ps, es, h') →
 es.length = l.length ∧ h' = heapOf (fun _ => true) i es h ∧ ∀ (k : Nat) (o : Oper), l[k]? = some o → ∃ ps1 rd up, es[k]? = some ⟨slotsOf ops o ++ rd, up⟩ ∧
  evOne T Γ ops N dec (heapOf (fun j => Nat.blt j (i + k)) i es h) (i + k) o (nx + 32 * (i + k)) = some (ps1, rd, up) ∧ ∀ q ∈ ps1, q ∈ ps
 | [], i, h, h', ps, es, e => by
   simp only [evOps, Option.some.injEq, Prod.mk.injEq] at e
   obtain ⟨rfl, rfl, rfl⟩ := e
   exact ⟨rfl, rfl, fun k o hk => by simp at hk⟩
 | o :: l, i, h, h', ps, es, e => by
   simp only [evOps] at e
   split at e
   ·cases e
   ·rename_i ps1 rd up ho
    obtain ⟨r, h1, h2⟩ := Option.map_eq_some_iff.1 e
    simp only [Prod.mk.injEq] at h2
    obtain ⟨rfl, rfl, rfl⟩ := h2
    obtain ⟨k1, k2, k3⟩ := evOps_spec l (i + 1) _ _ r.1 r.2.1 h1
    have hnone : ∀ (es : List Ent) (i k : Nat) (h : Heap), k ≤ i → heapOf (fun j => Nat.blt j k) i es h = h := by
     intro es
     induction es with
     | nil => intro i k h _; rfl
     | cons x es ih =>
       intro i k h hle
       have : Nat.blt i k = false := by
        cases hb : Nat.blt i k with
        | false => rfl
        | true => have := Nat.le_of_ble_eq_true hb; omega
       simp only [heapOf, this, cond_false]
       exact ih (i + 1) k h (by omega)
    refine ⟨by simp [k1], by simp only [heapOf, cond_true]; exact k2, fun k o' hk => ?_⟩
    cases k with
    | zero =>
      simp at hk
      subst hk
      refine ⟨ps1, rd, up, rfl, ?_, fun q hq => List.mem_append_left _ hq⟩
      rw [Nat.add_zero, hnone _ _ _ _ (Nat.le_refl _)]; exact ho
    | succ k =>
      obtain ⟨ps', rd', up', a1, a2, a3⟩ := k3 k o' (by simpa using hk)
      have hb : Nat.blt i (i + (k + 1)) = true := by simp [Nat.blt]
      refine ⟨ps', rd', up', by simpa using a1, ?_, fun q hq => List.mem_append_right _ (a3 q hq)⟩
      simp only [heapOf, hb, cond_true]
      rw [show i + (k + 1) = i + 1 + k by omega]; exact a2
theorem wpAny_inv {F : Fence} {m : Nat} {P : Program} {ops : Array Oper} {Q : Exit → Act → World → Prop} (J : (Nat → Bool) → Act → World → Prop)
 (hedge : ∀ (i : Nat) (o : Oper), ops[i]? = some o → ∀ d ∈ depsOf o, d < i)
 (hstep : ∀ (D : Nat → Bool) (a : Act) (w : World) (i : Nat) (o : Oper), ClosedD ops D → ops[i]? = some o → D i = false → (∀ d ∈ depsOf o, D d = true) → J D a w → ∀ K : Act → World → Prop, (∀ a' w', J (addD D i) a' w' → K a' w') → wpOpIn F m P ops Q i K a w)
 (hend : ∀ D a w, (∀ i, i < ops.size → D i = true) → J D a w → Q .normal a w) (hcongr : ∀ D D' a w, (∀ i, D i = D' i) → J D a w → J D' a w) :
 ∀ (fuel : Nat) (listed : Array Bool) (a : Act) (w : World), listed.size = ops.size → ClosedD ops (fun i => listed.getD i false) → (listed.toList.filter (· == false)).length ≤ fuel → J (fun i => listed.getD i false) a w → wpAnyIn F m P .any ops Q fuel listed a w := by
 have hready : ∀ listed : Array Bool, listed.size = ops.size → Region.ready .any ops listed = [] → ∀ i, i < ops.size → listed.getD i false = true := by
  intro listed hsz hr i
  induction i using Nat.strongRecOn with
  | _ i ih =>
    intro hi
    cases hl : listed.getD i false with
    | true => rfl
    | false =>
      exfalso
      have hm : i ∈ Region.ready .any ops listed := by
       rw [mem_ready]
       refine ⟨?_, ops[i], Array.getElem?_eq_getElem hi, fun e he hb => ?_⟩
       ·have : i < listed.size := by omega
        simp [this] at hl ⊢
        exact hl
       ·have hd := mem_deps he hb
        have := hedge i _ (Array.getElem?_eq_getElem hi) _ hd
        exact ih _ this (by omega)
      rw [hr] at hm
      cases hm
 intro fuel
 induction fuel with
 | zero =>
   intro listed a w hsz hcl hlen hJ
   have hall : ∀ i, i < ops.size → listed.getD i false = true := by
    intro i hi
    have hlt : i < listed.size := by omega
    cases hl : listed[i] with
    | true => simp [hlt, hl]
    | false =>
      exfalso
      have : listed[i] ∈ listed.toList.filter (· == false) := List.mem_filter.2 ⟨by simp, by simp [hl]⟩
      have h0 : listed.toList.filter (· == false) = [] := List.eq_nil_of_length_eq_zero (by omega)
      rw [h0] at this
      cases this
   refine ⟨?_, hend _ a w hall hJ⟩
   cases hr : Region.ready .any ops listed with
   | nil => rfl
   | cons i rs =>
     exfalso
     have hm : i ∈ Region.ready .any ops listed := by rw [hr]; simp
     obtain ⟨h0, o, ho, _⟩ := mem_ready.1 hm
     have hi := (Array.getElem?_eq_some_iff.1 ho).1
     have := hall i hi
     have hlt : i < listed.size := by omega
     simp [hlt] at h0 this
     rw [h0] at this; cases this
 | succ fuel ih =>
   intro listed a w hsz hcl hlen hJ
   refine ⟨fun hr => hend _ a w (hready listed hsz hr) hJ, fun i hi => ?_⟩
   obtain ⟨h0, o, ho, hall⟩ := mem_ready.1 hi
   have hio := (Array.getElem?_eq_some_iff.1 ho).1
   have hlt : i < listed.size := by omega
   have hDi : listed.getD i false = false := by simp [hlt] at h0 ⊢; exact h0
   have hdeps : ∀ d ∈ depsOf o, listed.getD d false = true := by
    intro d hd
    obtain ⟨y, hy, hyd⟩ := List.mem_filterMap.1 hd
    cases hb : Region.binds .any y with
    | false => simp [hb] at hyd
    | true => simp [hb] at hyd; subst hyd; exact hall y (by simpa using hy) hb
   have hset : ∀ j, addD (fun i => listed.getD i false) i j = (listed.setIfInBounds i true).getD j false := by
    intro j
    by_cases hij : i = j
    ·subst hij; simp [addD, hlt]
    ·rw [getD_set_ne false hij]; simp [addD, Ne.symm hij]
   refine hstep _ a w i o hcl ho hDi hdeps hJ _ fun a' w' hJ' => ?_
   refine ih (listed.setIfInBounds i true) a' w' (by simp [hsz]) (fun k o' hk hDk d hd => ?_) ?_ (hcongr _ _ _ _ hset hJ')
   ·have hDk' : (listed.setIfInBounds i true).getD k false = true := hDk
    show (listed.setIfInBounds i true).getD d false = true
    rw [← hset] at hDk' ⊢
    simp only [addD, Bool.or_eq_true, beq_iff_eq] at hDk' ⊢
    rcases hDk' with hDk' | rfl
    ·exact .inl (hcl k o' hk hDk' d hd)
    ·rw [ho] at hk; injection hk with hk; subst hk; exact .inl (hdeps d hd)
   ·have hcount : ∀ (l : List Bool) (i : Nat), l[i]? = some false → ((l.set i true).filter (· == false)).length + 1 = (l.filter (· == false)).length := by
     intro l
     induction l with
     | nil => intro i h; simp at h
     | cons b l ih =>
       intro i h
       cases i with
       | zero => simp at h; subst h; simp
       | succ i =>
         have := ih i (by simpa using h)
         simp only [List.set_cons_succ, List.filter_cons]
         split <;> (try simp only [List.length_cons]) <;> omega
    have := hcount listed.toList i (by rw [Array.getElem?_toList, Array.getElem?_eq_getElem hlt]; simp only [hlt, Array.getD_eq_getD_getElem?, Array.getElem?_eq_getElem, Option.getD_some] at hDi; rw [hDi])
    rw [Array.toList_setIfInBounds]
    omega
section
variable {P : Program} {mine : Nat → Prop} {N : Nat}
theorem evRegion_draw {T : Tab} (hT : TabOK P T) {Γ : Specs} (hΓ : SpecsOK P Γ) {ops : Array Oper} {dec : List (Nat × Bool)} {nx : Nat} (hnx : 0 < nx) {Q : Exit → Act → World → Prop} {ρ : Env} {ro : Nat → Prop} {h h' : Heap} {a : Act} {w : World} {ps : List Prop} {es : List Ent}
 (e : evOps T Γ ops nx N dec 0 ops.toList h = some (ps, es, h')) (hs : ∀ q ∈ ps, q) (hok : drawOK ops es = true) (S : StOK mine ρ ro h N a w) (hf : ∀ n, nx ≤ n → ρ n = none)
 (hQ : ∀ ρ' ro' a' w', GrowM mine ρ ρ' ro ro' w w' → Step mine w w' → StOK mine ρ' ro' h' N a' w' → (∀ n, nx + 32 * ops.size ≤ n → ρ' n = none) → Q .normal a' w') (hnd : noDefers ops = true) (r : Option Nat) (m : Nat) :
 wpAnyIn (fenceR r) m P .any ops Q ops.size (Array.replicate ops.size false) a w := by
 obtain ⟨hlen, hh', hspec⟩ := evOps_spec ops.toList 0 h h' ps es e
 have hlen' : es.length = ops.size := by simpa using hlen
 have hedge : ∀ (i : Nat) (o : Oper), ops[i]? = some o → ∀ d ∈ depsOf o, d < i := by
  intro i o ho d hd
  simp only [drawOK, Bool.and_eq_true] at hok
  have := edges_lt ops.toList 0 hok.1 i o (by rw [Array.getElem?_toList]; exact ho) d hd
  omega
 let J : (Nat → Bool) → Act → World → Prop := fun D a1 w1 => ∃ ρ1 ro1, GrowM mine ρ ρ1 ro ro1 w w1 ∧ Step mine w w1 ∧ StOK mine ρ1 ro1 (heapOf D 0 es h) N a1 w1 ∧
  ∀ n, nx ≤ n → ρ1 n ≠ none → ∃ i, i < ops.size ∧ D i = true ∧ nx + 32 * i ≤ n ∧ n < nx + 32 * i + 32
 refine wpAny_inv J hedge ?_ ?_ ?_ ops.size _ a w (by simp) (fun i o ho hD => ?_) ?_ ?_
 ·-- one operation
  rintro D a1 w1 i o hcl ho hDi hdeps ⟨ρ1, ro1, g1, st1, S1, hn1⟩ K hK
  have hio : i < ops.size := (Array.getElem?_eq_some_iff.1 ho).1
  obtain ⟨ps1, rd, up, k1, k2, k7⟩ := hspec i o (by rw [Array.getElem?_toList]; exact ho)
  simp only [Nat.zero_add] at k2
  have hag := fun (key : Nat × Nat) (hkey : keyIn key (slotsOf ops o ++ rd) = true ∨ keyIn key (upKeys up) = true) (j : Nat) (f : Ent) (hf : es[j]? = some f) (hkj : keyIn key (upKeys f.up) = true) (hne : j ≠ i) =>
   agree hok hcl ho hDi hdeps k1 hkey hf hkj hne
  have hsame : ∀ n o', keyIn (n, o') (slotsOf ops o ++ rd) = true → hget (heapOf D 0 es h) n o' = hget (heapOf (fun j => Nat.blt j i) 0 es h) n o' := by
   intro n o' hkey
   refine heapOf_agree es 0 h h rfl fun k f hkf hkk => ?_
   rw [Nat.zero_add]
   by_cases hne : k = i
   ·subst hne
    rw [hDi]
    cases hb : Nat.blt k k with
    | false => rfl
    | true => have := Nat.le_of_ble_eq_true hb; omega
   ·have := hag (n, o') (.inl hkey) k f hkf hkk hne
    cases hb : Nat.blt k i with
    | true => exact this.2 (Nat.le_of_ble_eq_true hb)
    | false =>
      cases hD : D k with
      | false => rfl
      | true =>
        have h3 := this.1 hD
        have : Nat.blt k i = true := by simp [Nat.blt]; omega
        rw [this] at hb; cases hb
  have hstep := one_step hT hΓ S1 (K := K) (Q := Q) k2 (fun q hq => hs q (k7 q hq)) (fun n o' ht => hsame n o' (keyIn_mem.2 ht)) (by omega) (fun n h1 h2 => ?_) (fun ρ2 ro2 a2 w2 g2 hn2 st2 S2 => hK a2 w2 ?_)
  ·unfold wpOpIn
   simp only [ho]
   by_cases hw : Region.wanted o (yielded ops a1.tmps) = true
   ·rw [if_pos hw] at hstep ⊢; exact oper_in (noDefers_get hnd ho) hstep
   ·rw [if_neg hw] at hstep ⊢; exact ⟨fun _ _ => trivial, hstep⟩
  ·cases hρ : ρ1 n with
   | none => rfl
   | some v =>
     exfalso
     obtain ⟨j, hj, hDj, b1, b2⟩ := hn1 n (by omega) (by rw [hρ]; simp)
     have : j = i := by omega
     subst this
     rw [hDi] at hDj; cases hDj
  ·refine ⟨ρ2, ro2, g1.trans g2, st1.trans st2, S2.congr fun n o' => ?_, fun n hle hne => ?_⟩
   ·refine heapOf_add hDi es 0 h _ (Nat.zero_le _) (by simpa using k1) fun hkey k f hkf hkk hDk => ?_
    rw [Nat.zero_add] at hDk ⊢
    by_cases hne : k = i
    ·subst hne; rw [hDi] at hDk; cases hDk
    ·exact (hag (n, o') (.inr hkey) k f hkf hkk hne).1 hDk
   ·by_cases hρ : ρ2 n = ρ1 n
    ·rw [hρ] at hne
     obtain ⟨j, hj, hDj, b1, b2⟩ := hn1 n hle hne
     exact ⟨j, hj, by simp [addD, hDj], b1, b2⟩
    ·exact ⟨i, hio, by simp [addD], hn2 n hρ⟩
 ·-- the end
  rintro D a1 w1 hall ⟨ρ1, ro1, g1, st1, S1, hn1⟩
  refine hQ ρ1 ro1 a1 w1 g1 st1 (S1.congr fun n o' => ?_) (fun n hle => ?_)
  ·rw [hh']
   exact heapOf_agree es 0 h h rfl fun k f hkf _ => by
    rw [Nat.zero_add]
    have hk := (List.getElem?_eq_some_iff.1 hkf).1
    exact (hall k (by omega)).symm
  ·cases hρ : ρ1 n with
   | none => rfl
   | some v =>
     exfalso
     obtain ⟨j, hj, hDj, b1, b2⟩ := hn1 n (by omega) (by rw [hρ]; simp)
     omega
 ·rintro D D' a1 w1 hDD ⟨ρ1, ro1, g1, st1, S1, hn1⟩
  refine ⟨ρ1, ro1, g1, st1, S1.congr fun n o' => heapOf_agree es 0 h h rfl fun k f _ _ => (hDD _).symm, fun n hle hne => ?_⟩
  obtain ⟨j, hj, hDj, b⟩ := hn1 n hle hne
  exact ⟨j, hj, by rw [← hDD]; exact hDj, b⟩
 ·have : (Array.replicate ops.size false).getD i false = true := hD
  simp [Array.getElem?_replicate] at this
  split at this <;> simp at this
 ·have h0 := List.length_filter_le (· == false) (Array.replicate ops.size false).toList
  have h1 : (Array.replicate ops.size false).toList.length = ops.size := by simp
  omega
 ·have hnone : ∀ (es : List Ent) (i : Nat) (h : Heap), heapOf (fun i => (Array.replicate ops.size false).getD i false) i es h = h := by
   intro es
   induction es with
   | nil => intro i h; rfl
   | cons x es ih =>
     intro i h
     have : (Array.replicate ops.size false).getD i false = false := by
      simp [Array.getElem?_replicate]; split <;> rfl
     simp only [heapOf, this, cond_false]
     exact ih _ _
  refine ⟨ρ, ro, GrowM.refl _ _ _ _, Step.refl _ _, by rw [hnone]; exact S, fun n hle hne => absurd (hf n hle) hne⟩
end
end Go.Eng