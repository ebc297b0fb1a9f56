/- The engine, part 2: the abstract heap and what it says of a world. -/
import Derived.Test.YtodnecfgiimclaaEngA
set_option linter.unusedSimpArgs false
set_option linter.unusedVariables false
namespace Go.Eng
inductive Cont where
 | cell (v : AV)
 | arr (n : Nat) (f : Nat → AV)
 | vec (sz e n : Nat) (f : Nat → AV)
 | map (ar : Nat) (es : List (List Int × AV))
 | maps (ar : Nat) (es : List (List Int × AV)) (bs : List Nat) (ck : Nat)
 | iter (m since : Nat) (seen : List Nat) (c0 : Nat) (k v : AV)
 | top
 | dead
abbrev Heap := List (Nat × Nat × Cont)
def hget : Heap → Nat → Nat → Option Cont
 | [], _, _ => none
 | (n', o', c) :: h, n, o => bif n' == n && o' == o then some c else hget h n o
def hput : Heap → List (Nat × Nat × Cont) → Heap
 | h, [] => h
 | h, x :: up => hput (x :: h) up
theorem hget_cons (n' o' : Nat) (c : Cont) (h : Heap) (n o : Nat) : hget ((n', o', c) :: h) n o = if n' = n ∧ o' = o then some c else hget h n o := by
 simp only [hget]
 by_cases h1 : n' = n
 ·subst h1
  by_cases h2 : o' = o
  ·subst h2; simp
  ·have h3 : (o' == o) = false := beq_eq_false_iff_ne.2 h2
   simp [h3, h2]
 ·have h3 : (n' == n) = false := beq_eq_false_iff_ne.2 h1
  simp [h3, h1]
def Cont.live : Cont → Prop
 | .dead => False
 | _ => True
def Cont.wd : Cont → Nat
 | .arr k _ => k
 | _ => 1
def live (h : Heap) (n : Nat) : Prop := ∃ o c, hget h n o = some c ∧ c.live
def keyVal : IntKind → List Int → Value
 | k, [x] => .int k x
 | k, xs => .agg (xs.map (Value.int k)).toArray
structure ERel (ar : Nat) (ρ : Env) (ro : Nat → Prop) (w : World) (e : List Int × AV) (m : MapEntry) : Prop where
 key : e.1.length = ar ∧ m.key = keyVal .i64 e.1
 val : VRel ρ ro w e.2 m.val
def MB (ms : Array MapEntry) (clock : Nat) : Prop := (ms.toList.map (·.born)).Pairwise (· < ·) ∧ ∀ m ∈ ms.toList, m.born < clock
def OwnR (w : World) (e sz : Nat) (x : Value) (k : Nat) (xs : List Value) : Prop :=
 xs.length = k * sz ∧ ((x = .slice none 0 0 ∧ k = 0) ∨
  ∃ g cap cur, x = .slice (some ⟨g, 0, none⟩) k cap ∧ 0 ≤ g ∧ (∃ fz : Nat × Nat, w.heap[g]? = some (.cells cur e fz) ∧ (fz = (0, 0) ∨ cur.size ≤ fz.1)) ∧ k ≤ cap ∧ cap ≤ maxLen ∧ cur.size = cap * sz ∧ cur.toList.take (k * sz) = xs)
theorem OwnR.of {w : World} {e sz k : Nat} {x : Value} {xs : List Value} (h : w.ownsRow 0 e sz x k xs) : OwnR w e sz x k xs := by
 refine ⟨h.1, h.2.imp_right ?_⟩
 rintro ⟨g, cap, cur, h1, h2, h3, h4⟩
 exact ⟨g, cap, cur, h1, h2, ⟨_, h3, .inl rfl⟩, h4⟩
theorem OwnR.nil (w : World) (e sz : Nat) : OwnR w e sz (.slice none 0 0) 0 [] := .of (World.ownsRow_nil w 0 e sz)
theorem OwnR.lt {w : World} {e sz k : Nat} {x : Value} {xs : List Value} (h : OwnR w e sz x k xs) : ∀ b, blk x = some b → b < w.heap.size := by
 intro b hb
 rcases h.2 with ⟨rfl, _⟩ | ⟨g, cap, cur, rfl, _, ⟨fz, hg, _⟩, _⟩
 ·simp [blk] at hb
 ·simp [blk] at hb
  subst hb
  exact (Array.getElem?_eq_some_iff.1 hg).1
theorem OwnR.cells {w : World} {e sz k : Nat} {x : Value} {xs : List Value} (h : OwnR w e sz x k xs) {g : Nat} (hg : blk x = some g) : ∀ j u, xs[j]? = some u → w.cell? ((⟨g, 0, none⟩ : Addr).add j) = some u := by
 intro j u hu
 rcases h.2 with ⟨rfl, _⟩ | ⟨g', cap, cur, rfl, _, ⟨fz, hgg, _⟩, _, _, _, htake⟩
 ·simp [blk] at hg
 ·simp [blk] at hg
  subst hg
  have hadd : (⟨g', 0, none⟩ : Addr).add j = ⟨g', j, none⟩ := by unfold Addr.add; split <;> simp_all
  rw [hadd, cell_of_row w g' j cur e fz hgg]
  rw [← htake, List.getElem?_take] at hu
  split at hu
  ·simpa using hu
  ·cases hu
theorem OwnR.keep {w w' : World} {e sz k : Nat} {x : Value} {xs : List Value} (h : OwnR w e sz x k xs) (hb : ∀ b, blk x = some b → w'.heap[b]? = w.heap[b]?) : OwnR w' e sz x k xs := by
 refine ⟨h.1, h.2.imp_right ?_⟩
 rintro ⟨g, cap, cur, rfl, h2, ⟨fz, h3, h5⟩, h4⟩
 exact ⟨g, cap, cur, rfl, h2, ⟨fz, (hb g rfl).trans h3, h5⟩, h4⟩
def CSim (mine : Nat → Prop) (ρ : Env) (ro : Nat → Prop) (w : World) (n o : Nat) : Cont → Prop
 | .cell v => ∃ b cs ty u, ρ n = some (.pointer (some ⟨b, 0, none⟩)) ∧ w.heap[b]? = some (.cells cs ty (0, 0)) ∧ mine b ∧ ¬ ro b ∧ cs[o]? = some u ∧ u.oneCell' = true ∧ VRel ρ ro w v u
 | .arr k f => ∃ b cs ty, ρ n = some (.pointer (some ⟨b, 0, none⟩)) ∧ w.heap[b]? = some (.cells cs ty (0, 0)) ∧ mine b ∧ ¬ ro b ∧
    ∀ i, i < k → ∃ u, cs[o + i]? = some u ∧ u.oneCell' = true ∧ VRel ρ ro w (f i) u
 | .vec sz e k f => o = 0 ∧ ∃ x xs, ρ n = some x ∧ (∀ b, blk x = some b → mine b ∧ ¬ ro b) ∧ OwnR w e sz x k xs ∧ (∀ u ∈ xs, u.oneCell' = true) ∧ ∀ i, i < k → CRel ρ ro w (f i).cells ((xs.drop (i * sz)).take sz)
 | .map ar es => o = 0 ∧ ∃ r ms clock, ρ n = some (.map (some r)) ∧ w.heap[r]? = some (.map ms clock) ∧ mine r ∧ ¬ ro r ∧ (ms.size = es.length ∧ MB ms clock) ∧ ∀ i (hi : i < ms.size) e, es[i]? = some e → ERel ar ρ ro w e ms[i]
 | .maps ar es bs ck => o = 0 ∧ ∃ r ms, ρ n = some (.map (some r)) ∧ w.heap[r]? = some (.map ms ck) ∧ mine r ∧ ¬ ro r ∧ (ms.size = es.length ∧ MB ms ck ∧ ms.toList.map (·.born) = bs) ∧ ∀ i (hi : i < ms.size) e, es[i]? = some e → ERel ar ρ ro w e ms[i]
 | .iter m since seen c0 _ _ => o = 0 ∧ ∃ b r, ρ n = some (.pointer (some ⟨b, 0, none⟩)) ∧ w.heap[b]? = some (.mapIter (some r) since seen.toArray c0) ∧ mine b ∧ ¬ ro b ∧ ρ m = some (.map (some r))
 | .top => ∃ b cs ty, ρ n = some (.pointer (some ⟨b, 0, none⟩)) ∧ w.heap[b]? = some (.cells cs ty (0, 0)) ∧ mine b ∧ ¬ ro b ∧ cs.size ≤ o
 | .dead => True
structure Sim (mine : Nat → Prop) (ρ : Env) (ro : Nat → Prop) (h : Heap) (w : World) : Prop where
 cont : ∀ n o c, 0 < n → hget h n o = some c → CSim mine ρ ro w n o c
 dist : ∀ n m x y b, 0 < n → 0 < m → n ≠ m → live h n → live h m → ρ n = some x → ρ m = some y → blk x = some b → blk y = some b → False
 new : ∀ b, w.heap.size ≤ b → mine b ∧ ¬ ro b
 zero : ρ 0 = none
 lay : ∀ n o o' c c', 0 < n → hget h n o = some c → hget h n o' = some c' → c.live → c'.live → o < o' → o + c.wd ≤ o'
structure GrowM (mine : Nat → Prop) (ρ ρ' : Env) (ro ro' : Nat → Prop) (w w' : World) : Prop where
 g : Grow ρ ρ' ro ro' w w'
 own : ∀ b, ro' b → ro b ∨ mine b
theorem GrowM.refl (mine : Nat → Prop) (ρ : Env) (ro : Nat → Prop) (w : World) : GrowM mine ρ ρ ro ro w w := ⟨Grow.refl _ _ _, fun _ h => .inl h⟩
theorem GrowM.trans {mine : Nat → Prop} {ρ ρ' ρ'' : Env} {ro ro' ro'' : Nat → Prop} {w w' w'' : World} (g : GrowM mine ρ ρ' ro ro' w w') (k : GrowM mine ρ' ρ'' ro' ro'' w' w'') : GrowM mine ρ ρ'' ro ro'' w w'' :=
 ⟨g.g.trans k.g, fun b h => (k.own b h).elim (g.own b) .inr⟩
theorem Grow.m {mine : Nat → Prop} {ρ ρ' : Env} {ro : Nat → Prop} {w w' : World} (g : Grow ρ ρ' ro ro w w') : GrowM mine ρ ρ' ro ro w w' := ⟨g, fun _ h => .inl h⟩
structure Step (mine : Nat → Prop) (w w' : World) : Prop where
 os : w'.os = w.os
 tape : w'.tape = w.tape
 output : w'.output = w.output
 size : w.heap.size ≤ w'.heap.size
 block : ∀ b, b < w.heap.size → ¬ mine b → w'.heap[b]? = w.heap[b]?
theorem Step.refl (mine : Nat → Prop) (w : World) : Step mine w w := ⟨rfl, rfl, rfl, Nat.le_refl _, fun _ _ _ => rfl⟩
theorem Step.trans {mine : Nat → Prop} {a b c : World} (h : Step mine a b) (k : Step mine b c) : Step mine a c :=
 ⟨k.os.trans h.os, k.tape.trans h.tape, k.output.trans h.output, Nat.le_trans h.size k.size, fun i hi hm => (k.block i (Nat.lt_of_lt_of_le hi h.size) hm).trans (h.block i hi hm)⟩
theorem CSim.lt {mine : Nat → Prop} {ρ : Env} {ro : Nat → Prop} {w : World} {n o : Nat} {c : Cont} (h : CSim mine ρ ro w n o c) (hl : c.live) {x : Value} {b : Nat} (hx : ρ n = some x) (hb : blk x = some b) :
 b < w.heap.size ∧ mine b ∧ ¬ ro b := by
 have lt : ∀ {b : Nat} {ob : Obj}, w.heap[b]? = some ob → b < w.heap.size := fun h => (Array.getElem?_eq_some_iff.1 h).1
 cases c with
 | cell v =>
   obtain ⟨b', cs, ty, u, h1, h2, h3, h4, _⟩ := h
   rw [hx] at h1; injection h1 with h1; subst h1; simp [blk] at hb; subst hb
   exact ⟨lt h2, h3, h4⟩
 | arr k f =>
   obtain ⟨b', cs, ty, h1, h2, h3, h4, _⟩ := h
   rw [hx] at h1; injection h1 with h1; subst h1; simp [blk] at hb; subst hb
   exact ⟨lt h2, h3, h4⟩
 | vec sz e k f =>
   obtain ⟨_, x', xs, h1, h2, h3, _⟩ := h
   rw [hx] at h1; injection h1 with h1; subst h1
   exact ⟨h3.lt b hb, (h2 b hb).1, (h2 b hb).2⟩
 | map ar es =>
   obtain ⟨_, r, ms, clock, h1, h2, h3, h4, _⟩ := h
   rw [hx] at h1; injection h1 with h1; subst h1; simp [blk] at hb; subst hb
   exact ⟨lt h2, h3, h4⟩
 | maps ar es bs ck =>
   obtain ⟨_, r, ms, h1, h2, h3, h4, _⟩ := h
   rw [hx] at h1; injection h1 with h1; subst h1; simp [blk] at hb; subst hb
   exact ⟨lt h2, h3, h4⟩
 | iter m since seen c0 k v =>
   obtain ⟨_, b', r, h1, h2, h3, h4, _⟩ := h
   rw [hx] at h1; injection h1 with h1; subst h1; simp [blk] at hb; subst hb
   exact ⟨lt h2, h3, h4⟩
 | top =>
   obtain ⟨b', cs, ty, h1, h2, h3, h4, _⟩ := h
   rw [hx] at h1; injection h1 with h1; subst h1; simp [blk] at hb; subst hb
   exact ⟨lt h2, h3, h4⟩
 | dead => exact hl.elim
theorem ERel.grow {ar : Nat} {ρ ρ' : Env} {ro ro' : Nat → Prop} {w w' : World} (g : Grow ρ ρ' ro ro' w w') {e : List Int × AV} {m : MapEntry} (h : ERel ar ρ ro w e m) : ERel ar ρ' ro' w' e m := ⟨h.key, VRel.grow g h.val⟩
theorem CSim.frame {mine : Nat → Prop} {ρ ρ' : Env} {ro ro' : Nat → Prop} {w w' : World} {n o : Nat} {c : Cont} (h : CSim mine ρ ro w n o c) (g : Grow ρ ρ' ro ro' w w')
 (hb : ∀ x b, ρ n = some x → blk x = some b → w'.heap[b]? = w.heap[b]? ∧ ¬ ro' b) : CSim mine ρ' ro' w' n o c := by
 cases c with
 | cell v =>
   obtain ⟨b, cs, ty, u, h1, h2, h3, h4, h5, h6, h7⟩ := h
   have := hb _ b h1 rfl
   exact ⟨b, cs, ty, u, g.env _ _ h1, this.1.trans h2, h3, this.2, h5, h6, VRel.grow g h7⟩
 | arr k f =>
   obtain ⟨b, cs, ty, h1, h2, h3, h4, h5⟩ := h
   have := hb _ b h1 rfl
   refine ⟨b, cs, ty, g.env _ _ h1, this.1.trans h2, h3, this.2, fun i hi => ?_⟩
   obtain ⟨u, a1, a2, a3⟩ := h5 i hi
   exact ⟨u, a1, a2, VRel.grow g a3⟩
 | vec sz e k f =>
   obtain ⟨ho, x, xs, h1, h2, h3, h4, h5⟩ := h
   refine ⟨ho, x, xs, g.env _ _ h1, fun b e => ⟨(h2 b e).1, (hb x b h1 e).2⟩, h3.keep fun b e => (hb x b h1 e).1, h4, fun i hi => CRel.grow g (h5 i hi)⟩
 | map ar es =>
   obtain ⟨ho, r, ms, clock, h1, h2, h3, h4, h5, h6⟩ := h
   have := hb _ r h1 rfl
   exact ⟨ho, r, ms, clock, g.env _ _ h1, this.1.trans h2, h3, this.2, h5, fun i hi e he => (h6 i hi e he).grow g⟩
 | maps ar es bs ck =>
   obtain ⟨ho, r, ms, h1, h2, h3, h4, h5, h6⟩ := h
   have := hb _ r h1 rfl
   exact ⟨ho, r, ms, g.env _ _ h1, this.1.trans h2, h3, this.2, h5, fun i hi e he => (h6 i hi e he).grow g⟩
 | iter m since seen c0 k v =>
   obtain ⟨ho, b, r, h1, h2, h3, h4, h5⟩ := h
   have := hb _ b h1 rfl
   exact ⟨ho, b, r, g.env _ _ h1, this.1.trans h2, h3, this.2, g.env _ _ h5⟩
 | top =>
   obtain ⟨b, cs, ty, h1, h2, h3, h4, h5⟩ := h
   have := hb _ b h1 rfl
   exact ⟨b, cs, ty, g.env _ _ h1, this.1.trans h2, h3, this.2, h5⟩
 | dead => trivial
theorem Sim.more {mine : Nat → Prop} {ρ : Env} {ro : Nat → Prop} {h : Heap} {w w' : World} (s : Sim mine ρ ro h w) (hs : w.heap.size ≤ w'.heap.size) (hb : ∀ b, b < w.heap.size → w'.heap[b]? = w.heap[b]?) : Sim mine ρ ro h w' := by
 have g : Grow ρ ρ ro ro w w' := ⟨fun _ _ h => h, fun _ h => h, fun b hr => hb b (by
  rcases Nat.lt_or_ge b w.heap.size with hlt | hge
  ·exact hlt
  ·exact absurd hr (s.new b hge).2)⟩
 refine ⟨fun n o c hn hc => ?_, s.dist, fun b hge => s.new b (Nat.le_trans hs hge), s.zero, s.lay⟩
 have h0 := s.cont n o c hn hc
 by_cases hl : c.live
 ·exact h0.frame g fun x b hx hbk => ⟨hb b (h0.lt hl hx hbk).1, (h0.lt hl hx hbk).2.2⟩
 ·cases c <;> simp [Cont.live] at hl
  trivial
theorem Sim.ro_lt {mine : Nat → Prop} {ρ : Env} {ro : Nat → Prop} {h : Heap} {w : World} (s : Sim mine ρ ro h w) {b : Nat} (hr : ro b) : b < w.heap.size := by
 rcases Nat.lt_or_ge b w.heap.size with hlt | hge
 ·exact hlt
 ·exact absurd hr (s.new b hge).2
def SRel (ρ : Env) (ro : Nat → Prop) (h : Heap) (a : Act) (w : World) : Prop := ∀ t v, hget h 0 t = some (.cell v) → ∃ u, a.tmps[t]? = some u ∧ VRel ρ ro w v u
theorem SRel.grow {ρ ρ' : Env} {ro ro' : Nat → Prop} {h : Heap} {a : Act} {w w' : World} (s : SRel ρ ro h a w) (g : Grow ρ ρ' ro ro' w w') : SRel ρ' ro' h a w' := fun t v ht => by
 obtain ⟨u, h1, h2⟩ := s t v ht
 exact ⟨u, h1, VRel.grow g h2⟩
theorem SRel.put {ρ : Env} {ro : Nat → Prop} {h : Heap} {a : Act} {w : World} (s : SRel ρ ro h a w) {d : Nat} {v : AV} {x : Value} (hd : d < a.tmps.size) (hv : VRel ρ ro w v x) :
 SRel ρ ro ((0, d, .cell v) :: h) (a.put (some d) x) w := fun t v' ht => by
 rw [hget_cons] at ht
 by_cases e : d = t
 ·subst e
  simp at ht
  subst ht
  exact ⟨x, by simp [Act.put, hd], hv⟩
 ·rw [if_neg (fun h => e h.2)] at ht
  obtain ⟨u, h1, h2⟩ := s t v' ht
  exact ⟨u, by simp only [Act.put]; rw [Array.getElem?_setIfInBounds_ne e]; exact h1, h2⟩
theorem hget_slot_ne (d : Nat) (c : Cont) (h : Heap) {n : Nat} (hn : 0 < n) (o : Nat) : hget ((0, d, c) :: h) n o = hget h n o := by
 rw [hget_cons, if_neg (fun e => by omega)]
theorem Sim.slot {mine : Nat → Prop} {ρ : Env} {ro : Nat → Prop} {h : Heap} {w : World} (s : Sim mine ρ ro h w) (d : Nat) (c : Cont) : Sim mine ρ ro ((0, d, c) :: h) w := by
 refine ⟨fun n o c' hn hc => ?_, fun n m x y b hn hm hne hl hl' => ?_, s.new, s.zero, fun n o o' c1 c2 hn h1 h2 => ?_⟩
 ·rw [hget_slot_ne d c h hn] at hc
  exact s.cont n o c' hn hc
 ·have f : ∀ n, 0 < n → live ((0, d, c) :: h) n → live h n := by
   rintro n hn ⟨o, c', h1, h2⟩
   rw [hget_slot_ne d c h hn] at h1
   exact ⟨o, c', h1, h2⟩
  exact s.dist n m x y b hn hm hne (f n hn hl) (f m hm hl')
 ·rw [hget_slot_ne d c h hn] at h1 h2
  exact s.lay n o o' c1 c2 hn h1 h2
theorem Sim.at_name {mine : Nat → Prop} {ρ ρ' : Env} {ro ro' : Nat → Prop} {h h' : Heap} {w w' : World} (s : Sim mine ρ ro h w) (g : Grow ρ ρ' ro ro' w w') (hnew : ∀ b, w'.heap.size ≤ b → mine b ∧ ¬ ro' b) (hz : ρ' 0 = none) (n : Nat)
 (hsame : ∀ m o, 0 < m → m ≠ n → hget h' m o = hget h m o)
 (hkeep : ∀ m x b, 0 < m → m ≠ n → live h m → ρ m = some x → blk x = some b → w'.heap[b]? = w.heap[b]? ∧ ¬ ro' b)
 (hat : ∀ o c, hget h' n o = some c → CSim mine ρ' ro' w' n o c)
 (hd : ∀ m x y b, 0 < m → m ≠ n → live h m → ρ m = some x → ρ' n = some y → blk x = some b → blk y = some b → live h' n → False)
 (hlay : ∀ o o' c c', hget h' n o = some c → hget h' n o' = some c' → c.live → c'.live → o < o' → o + c.wd ≤ o') : Sim mine ρ' ro' h' w' := by
 have live' : ∀ m, 0 < m → m ≠ n → live h' m → live h m := by
  rintro m hm hne ⟨o, c, h1, h2⟩
  rw [hsame m o hm hne] at h1
  exact ⟨o, c, h1, h2⟩
 have env' : ∀ m x, 0 < m → live h m → ρ' m = some x → ρ m = some x := by
  rintro m x hm ⟨o, c, h1, h2⟩ hx
  have h3 := s.cont m o c hm h1
  have : ∃ y, ρ m = some y := by
   cases c with
   | cell v => obtain ⟨b, cs, ty, u, h1, _⟩ := h3; exact ⟨_, h1⟩
   | arr k f => obtain ⟨b, cs, ty, h1, _⟩ := h3; exact ⟨_, h1⟩
   | vec sz e k f => obtain ⟨_, x, xs, h1, _⟩ := h3; exact ⟨_, h1⟩
   | map ar es => obtain ⟨_, r, ms, clock, h1, _⟩ := h3; exact ⟨_, h1⟩
   | maps ar es bs ck => obtain ⟨_, r, ms, h1, _⟩ := h3; exact ⟨_, h1⟩
   | iter m since seen c0 k v => obtain ⟨_, b, r, h1, _⟩ := h3; exact ⟨_, h1⟩
   | top => obtain ⟨b, cs, ty, h1, _⟩ := h3; exact ⟨_, h1⟩
   | dead => exact h2.elim
  obtain ⟨y, hy⟩ := this
  rw [g.env _ _ hy] at hx
  injection hx with hx
  rw [← hx]; exact hy
 refine ⟨fun m o c hm hc => ?_, fun m k x y b hm hk hne hl hl' hx hy hbx hby => ?_, hnew, hz, fun m o o' c c' hm h1 h2 => ?_⟩
 ·by_cases e : m = n
  ·subst e; exact hat o c hc
  ·rw [hsame m o hm e] at hc
   have h0 := s.cont m o c hm hc
   by_cases hl : c.live
   ·exact h0.frame g fun x b hx hbk => hkeep m x b hm e ⟨o, c, hc, hl⟩ hx hbk
   ·cases c <;> simp [Cont.live] at hl
    trivial
 ·by_cases e : m = n
  ·subst e
   have e2 : k ≠ m := fun h => hne h.symm
   have hlk := live' k hk e2 hl'
   exact hd k y x b hk e2 hlk (env' k y hk hlk hy) hx hby hbx hl
  ·have hlm := live' m hm e hl
   by_cases e2 : k = n
   ·subst e2
    exact hd m x y b hm e hlm (env' m x hm hlm hx) hy hbx hby hl'
   ·have hlk := live' k hk e2 hl'
    exact s.dist m k x y b hm hk hne hlm hlk (env' m x hm hlm hx) (env' k y hk hlk hy) hbx hby
 ·by_cases e : m = n
  ·subst e; exact hlay o o' c c' h1 h2
  ·rw [hsame m _ hm e] at h1 h2
   exact s.lay m o o' c c' hm h1 h2
theorem Sim.write {mine : Nat → Prop} {ρ : Env} {ro : Nat → Prop} {h h' : Heap} {w w' : World} (s : Sim mine ρ ro h w) {n g : Nat} {x : Value} (hn : 0 < n) (hx : ρ n = some x) (hb : blk x = some g) (hl : live h n)
 (hos : w'.os = w.os) (htape : w'.tape = w.tape) (hout : w'.output = w.output) (hsize : w'.heap.size = w.heap.size) (hoth : ∀ b, b ≠ g → w'.heap[b]? = w.heap[b]?)
 (hsame : ∀ m o, 0 < m → m ≠ n → hget h' m o = hget h m o) (hat : Grow ρ ρ ro ro w w' → ∀ o c, hget h' n o = some c → CSim mine ρ ro w' n o c)
 (hlay : ∀ o o' c c', hget h' n o = some c → hget h' n o' = some c' → c.live → c'.live → o < o' → o + c.wd ≤ o') :
 Sim mine ρ ro h' w' ∧ Grow ρ ρ ro ro w w' ∧ Step mine w w' := by
 obtain ⟨o, c, hc, hcl⟩ := hl
 have hg := (s.cont n o c hn hc).lt hcl hx hb
 have gr : Grow ρ ρ ro ro w w' := ⟨fun _ _ h => h, fun _ h => h, fun b hr => hoth b (fun e => hg.2.2 (e ▸ hr))⟩
 refine ⟨s.at_name gr (fun b hge => s.new b (by omega)) s.zero n hsame (fun m y b hm hne hlm hy hbm => ?_) (hat gr) (fun m y z b hm hne hlm hy hz hbm hbz _ => ?_) hlay, gr, ⟨hos, htape, hout, by omega, fun b _ hm => hoth b (fun e => hm (e ▸ hg.2.1))⟩⟩
 ·obtain ⟨o', c', h1, h2⟩ := hlm
  have hne' : b ≠ g := fun e => s.dist m n y x b hm hn hne ⟨o', c', h1, h2⟩ ⟨o, c, hc, hcl⟩ hy hx hbm (by rw [hb, e])
  exact ⟨hoth b hne', ((s.cont m o' c' hm h1).lt h2 hy hbm).2.2⟩
 ·rw [hx] at hz
  injection hz with hz
  subst hz
  exact s.dist m n y x b hm hn hne hlm ⟨o, c, hc, hcl⟩ hy hx hbm hbz
theorem Sim.alloc {mine : Nat → Prop} {ρ : Env} {ro : Nat → Prop} {h h' : Heap} {w w' : World} (s : Sim mine ρ ro h w) {n : Nat} (x : Value) (hn : 0 < n) (hf : ρ n = none) (hb : ∀ b, blk x = some b → w.heap.size ≤ b)
 (hos : w'.os = w.os) (htape : w'.tape = w.tape) (hout : w'.output = w.output) (hsize : w.heap.size ≤ w'.heap.size) (hoth : ∀ b, b < w.heap.size → w'.heap[b]? = w.heap[b]?)
 (hsame : ∀ m o, 0 < m → m ≠ n → hget h' m o = hget h m o)
 (hat : Grow ρ (fun m => if m = n then some x else ρ m) ro ro w w' → ∀ o c, hget h' n o = some c → CSim mine (fun m => if m = n then some x else ρ m) ro w' n o c)
 (hlay : ∀ o o' c c', hget h' n o = some c → hget h' n o' = some c' → c.live → c'.live → o < o' → o + c.wd ≤ o') :
 Sim mine (fun m => if m = n then some x else ρ m) ro h' w' ∧ Grow ρ (fun m => if m = n then some x else ρ m) ro ro w w' ∧ Step mine w w' := by
 have g : Grow ρ (fun m => if m = n then some x else ρ m) ro ro w w' := ⟨fun m v hv => by
  have : m ≠ n := fun e => by subst e; rw [hf] at hv; cases hv
  simp [this, hv], fun _ h => h, fun b hr => hoth b (s.ro_lt hr)⟩
 refine ⟨s.at_name g (fun b hge => s.new b (by omega)) (by simp [Nat.ne_of_lt hn, s.zero]) n hsame (fun m y b hm hne hlm hy hbm => ?_) (hat g) (fun m y z b hm hne hlm hy hz hbm hbz _ => ?_) hlay, g,
  ⟨hos, htape, hout, hsize, fun b hlt _ => hoth b hlt⟩⟩
 ·obtain ⟨o', c', h1, h2⟩ := hlm
  have := (s.cont m o' c' hm h1).lt h2 hy hbm
  exact ⟨hoth b this.1, this.2.2⟩
 ·simp at hz
  subst hz
  obtain ⟨o', c', h1, h2⟩ := hlm
  have h3 := ((s.cont m o' c' hm h1).lt h2 hy hbm).1
  have h4 := hb b hbz
  omega
end Go.Eng