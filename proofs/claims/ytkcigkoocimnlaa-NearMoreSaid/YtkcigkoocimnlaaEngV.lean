/- The engine, part 21: what is handed in from outside, as abstract values: numbers, bools, strings, structs of these. -/
import Derived.Test.YtkcigkoocimnlaaEngU
import Derived.WalkKit
import Derived.ProofKit
import Derived.OpenShut
import Derived.ShutString
import Derived.ChangeOld
import Derived.Below
import Derived.Carry
import Derived.SizedLaws
set_option linter.unusedSimpArgs false
set_option linter.unusedVariables false
namespace Go.Eng

inductive Sc where
  | int (k : IntKind) | bool | str
inductive ScV : Sc → AV → Value → Prop
  | int (k : IntKind) (n : Int) (h : (Lit.int k n).wf = true) : ScV (.int k) (.int k n) (.int k n)
  | bool (b : Bool) : ScV .bool (.bool b) (.bool b)
  | str (s : ByteArray) (h : s.size ≤ maxLen) : ScV .str (.str s) (.string s)
inductive ScL : List Sc → List AV → List Value → Prop
  | nil : ScL [] [] []
  | cons (s : Sc) (ss : List Sc) (a : AV) (as : List AV) (v : Value) (vs : List Value) (h : ScV s a v) (t : ScL ss as vs) : ScL (s :: ss) (a :: as) (v :: vs)

theorem ScV.rel {ρ : Env} {ro : Nat → Prop} {w : World} {s : Sc} {a : AV} {v : Value} (h : ScV s a v) : VRel ρ ro w a v ∧ v.oneCell' = true := by
  cases h with
  | int k n _ => exact ⟨.int k n, rfl⟩
  | bool b => exact ⟨.bool b, rfl⟩
  | str s _ => exact ⟨.str s, rfl⟩
theorem ScL.rel {ρ : Env} {ro : Nat → Prop} {w : World} : ∀ {ss : List Sc} {as : List AV} {vs : List Value}, ScL ss as vs → CRel ρ ro w as vs
  | _, _, _, .nil => .nil
  | _, _, _, .cons _ _ _ _ _ _ h t => .cons _ _ _ _ (h.rel (ρ := ρ) (ro := ro) (w := w)).1 (h.rel (ρ := ρ) (ro := ro) (w := w)).2 t.rel
theorem ScL.append : ∀ {ss : List Sc} {as : List AV} {vs : List Value} {ss' : List Sc} {as' : List AV} {vs' : List Value}, ScL ss as vs → ScL ss' as' vs' → ScL (ss ++ ss') (as ++ as') (vs ++ vs')
  | _, _, _, _, _, _, .nil, h => h
  | _, _, _, _, _, _, .cons _ _ _ _ _ _ h t, h' => .cons _ _ _ _ _ _ h (t.append h')
theorem ScL.len : ∀ {ss : List Sc} {as : List AV} {vs : List Value}, ScL ss as vs → vs.length = ss.length ∧ as.length = ss.length
  | _, _, _, .nil => ⟨rfl, rfl⟩
  | _, _, _, .cons _ _ _ _ _ _ _ t => ⟨by simp [t.len.1], by simp [t.len.2]⟩

def flatFs (g : Nat → Option (List Sc)) (c : Nat → Nat) : Nat → List Field → Option (List Sc)
  | _, [] => some []
  | o, f :: fs => match g f.type, flatFs g c (o + c f.type) fs with
    | some ks, some rest => bif f.offset == o && c f.type == ks.length then some (ks ++ rest) else none
    | _, _ => none
def repL : Nat → List Sc → List Sc
  | 0, _ => []
  | n + 1, ks => ks ++ repL n ks
/-- The scalars that a type's cells are. -/
def flatT (P : Program) : Nat → Nat → Option (List Sc)
  | 0, _ => none
  | d + 1, t => match P.underlying t with
    | some (.int k) => some [.int k]
    | some .bool => some [.bool]
    | some .string => some [.str]
    | some (.struct fs) => (flatFs (flatT P d) P.cellsOf 0 fs.toList).bind fun ks => bif P.cellsOf t == ks.length then some ks else none
    | some (.array n e) => (flatT P d e).bind fun ks => bif P.cellsOf t == n * ks.length && P.cellsOf e == ks.length then some (repL n ks) else none
    | _ => none

section
variable {H : Type} {enc : TypeId × Value → H} {P : Program} {w : World} {base : Nat} {spare : Nat → Bool} {held : Bool}

theorem flatFs_sound {g : Nat → Option (List Sc)} {cs : List Value} {n : Nat} (hg : ∀ t ks, g t = some ks → ∀ (cs : List Value) (x : DataW H × List MemPlace), DataW.trod enc P w base spare held n t cs = some x → ∃ as, ScL ks as cs) :
    ∀ (fs : List Field) (o : Nat) (ks : List Sc), flatFs g P.cellsOf o fs = some ks → (∀ f ∈ fs, ∃ x : DataW H × List MemPlace, DataW.trod enc P w base spare held n f.type ((cs.drop f.offset).take (P.cellsOf f.type)) = some x) → cs.length = o + ks.length → ∃ as, ScL ks as (cs.drop o)
  | [], o, ks, e, _, hl => by
    simp only [flatFs, Option.some.injEq] at e; subst e
    have : cs.drop o = [] := List.drop_eq_nil_of_le (by simp at hl; omega)
    rw [this]; exact ⟨[], .nil⟩
  | f :: fs, o, ks, e, hf, hl => by
    simp only [flatFs] at e
    split at e
    · rename_i k1 rest h1 h2
      obtain ⟨hb, e⟩ := bif_some e
      simp only [Bool.and_eq_true, beq_iff_eq] at hb
      injection e with e; subst e
      obtain ⟨x, hx⟩ := hf f List.mem_cons_self
      rw [hb.1] at hx
      obtain ⟨as1, s1⟩ := hg _ _ h1 _ x hx
      rw [List.length_append] at hl
      obtain ⟨as2, s2⟩ := flatFs_sound hg fs (o + P.cellsOf f.type) rest h2 (fun g hg => hf g (List.mem_cons_of_mem _ hg)) (by omega)
      refine ⟨as1 ++ as2, ?_⟩
      have := s1.append s2
      rwa [← List.drop_drop, List.take_append_drop] at this
    · cases e

theorem repL_sound {ks : List Sc} : ∀ (n : Nat) (cs : List Value), cs.length = n * ks.length → (∀ i, i < n → ∃ as, ScL ks as ((cs.drop (i * ks.length)).take ks.length)) → ∃ as, ScL (repL n ks) as cs
  | 0, cs, hl, _ => by
    have : cs = [] := List.eq_nil_of_length_eq_zero (by simpa using hl)
    subst this
    exact ⟨[], .nil⟩
  | n + 1, cs, hl, h => by
    obtain ⟨as1, s1⟩ := h 0 (Nat.succ_pos _)
    simp only [Nat.zero_mul, List.drop_zero] at s1
    obtain ⟨as2, s2⟩ := repL_sound (ks := ks) n (cs.drop ks.length) (by rw [List.length_drop, hl, Nat.succ_mul]; omega) fun i hi => by
      obtain ⟨as, s⟩ := h (i + 1) (by omega)
      rw [List.drop_drop]
      rw [Nat.succ_mul, Nat.add_comm] at s
      exact ⟨as, s⟩
    have := s1.append s2
    rw [List.take_append_drop] at this
    exact ⟨as1 ++ as2, this⟩

theorem flatT_sound : ∀ (d t : Nat) (ks : List Sc), flatT P d t = some ks → ∀ (fuel : Nat) (cs : List Value) (x : DataW H × List MemPlace), DataW.trod enc P w base spare held fuel t cs = some x → ∃ as, ScL ks as cs
  | 0, t, ks, e => by simp [flatT] at e
  | d + 1, t, ks, e => by
    intro fuel cs x hx
    simp only [flatT] at e
    split at e
    · rename_i k hu
      injection e with e; subst e
      obtain ⟨n, rfl, _, hw⟩ := DataW.trod_int hu hx
      exact ⟨[.int k n], .cons _ _ _ _ _ _ (.int k n hw) .nil⟩
    · rename_i hu
      injection e with e; subst e
      obtain ⟨b, rfl, _⟩ := DataW.trod_bool hu hx
      exact ⟨[.bool b], .cons _ _ _ _ _ _ (.bool b) .nil⟩
    · rename_i hu
      injection e with e; subst e
      obtain ⟨s, rfl, _, hs⟩ := DataW.trod_string hu hx
      exact ⟨[.str s], .cons _ _ _ _ _ _ (.str s hs) .nil⟩
    · rename_i fs hu
      obtain ⟨ks', h1, h2⟩ := Option.bind_eq_some_iff.1 e
      obtain ⟨hb, h2⟩ := bif_some h2
      injection h2 with h2; subst h2
      obtain ⟨xs, n, _, _, hl, hlen, hfs⟩ := DataW.trod_struct hu hx
      have := flatFs_sound (cs := cs) (n := n) (fun t ks ht cs x hx => flatT_sound d t ks ht n cs x hx) fs.toList 0 ks' h1 (fun f hf => by
        obtain ⟨i, hi⟩ := List.mem_iff_getElem?.1 hf
        have hi' : fs[i]? = some f := by simpa using hi
        have hlt := (Array.getElem?_eq_some_iff.1 hi').1
        refine ⟨xs[i], ?_⟩
        rw [hfs i f hi']
        simp [hlen, hlt]) (by rw [hl]; simpa using hb)
      simpa using this
    · rename_i n el hu
      obtain ⟨ks', h1, h2⟩ := Option.bind_eq_some_iff.1 e
      obtain ⟨hb, h2⟩ := bif_some h2
      injection h2 with h2; subst h2
      simp only [Bool.and_eq_true, beq_iff_eq] at hb
      obtain ⟨xs, m, _, _, hl, hlen, hel⟩ := DataW.trod_array hu hx
      refine repL_sound n cs (by rw [hl, hb.1]) fun i hi => ?_
      have hx' := hel i hi
      have hg : xs[i]? = some xs[i] := by simp [hlen, hi]
      rw [hg, hb.2] at hx'
      exact flatT_sound d el ks' h1 m _ _ hx'
    · cases e

/-- A struct that is handed in. -/
theorem open_flat {t : TypeId} {v : Value} {d : DataW H} {ps : List MemPlace} {ks : List Sc} {fs : Array Field} (hu : P.underlying t = some (.struct fs)) {W : World} {r : Reach} {b0 : Nat} (hval : Value.okWide P W r b0 t v) (h : DataW.Trod enc P w base spare held t v d ps) (hk : flatT P 8 t = some ks) :
    ∃ as us, v = .agg us ∧ ScL ks as us.toList := by
  unfold Value.okWide at hval
  rw [hu] at hval
  obtain ⟨cs, rfl, _⟩ := hval
  obtain ⟨fuel, hf⟩ := h
  obtain ⟨as, hs⟩ := flatT_sound 8 t ks hk fuel _ _ hf
  exact ⟨as, cs, rfl, hs⟩
end

/-- Cells of scalars as one value. -/
def ofSc : List AV → AV
  | [a] => a
  | as => .agg as
theorem ScL.ofSc_cells {ss : List Sc} {as : List AV} {vs : List Value} (h : ScL ss as vs) : (ofSc as).cells = as := by
  cases h with
  | nil => rfl
  | cons s ss a as v vs h t =>
    cases t with
    | nil => cases h <;> rfl
    | cons _ _ _ _ _ _ _ _ => rfl

section
variable {H : Type} {enc : TypeId × Value → H} {P : Program} {w : World} {base : Nat} {spare : Nat → Bool} {held : Bool}

/-- A slice of scalars, or of structs of scalars, that is handed in. -/
theorem open_slice {t e : TypeId} {v : Value} {d : DataW H} {ps : List MemPlace} {ks : List Sc} (hu : P.underlying t = some (.slice e)) {r : Reach} {b0 : Nat} (hval : Value.okWide P w r b0 t v) (h : DataW.Trod enc P w base spare held t v d ps) (hk : flatT P 8 e = some ks) (hc : P.cellsOf e = ks.length) (hpos : 0 < ks.length) :
    ∃ (n : Nat) (f : Nat → List AV) (g : Nat → List Value), n ≤ maxLen ∧ (∀ ρ, VRel ρ (fun b => b < w.heap.size) w (.rs ks.length n false fun i => ofSc (f i)) v) ∧ ∀ i, i < n → ScL ks (f i) (g i) := by
  obtain ⟨fuel, hf⟩ := h
  have hv : ∃ a l c, v = .slice a l c := by
    unfold Value.okWide at hval
    rw [hu] at hval
    simp only [Cell.okWide, hu, Cell.ok] at hval
    cases v <;> simp at hval
    exact ⟨_, _, _, rfl⟩
  obtain ⟨a, l, c, rfl⟩ := hv
  rcases DataW.trod_slice hu hf with ⟨h1, _⟩ | ⟨a', len, cap, elems, rest, n, _, h1, _, _, hl, hm, hlen, hel, _⟩
  · simp [Value.cells] at h1
    obtain ⟨rfl, rfl, rfl⟩ := h1
    exact ⟨0, fun _ => [], fun _ => [], Nat.zero_le _, fun ρ => .rs _ _ 0 _ _ none (fun _ => []) (Nat.le_refl _) (Nat.zero_le _) (fun e => by cases e) (fun h0 => absurd h0 (Nat.lt_irrefl 0)) (fun i hi => absurd hi (Nat.not_lt_zero _)) (fun i hi => absurd hi (Nat.not_lt_zero _)), fun i hi => absurd hi (Nat.not_lt_zero _)⟩
  · simp [Value.cells] at h1
    obtain ⟨rfl, rfl, rfl⟩ := h1
    have each : ∀ i, i < l → ∃ (as : List AV) (us : List Value), ScL ks as us ∧ ∀ j u, us[j]? = some u → w.cell? ((a'.add (i * ks.length)).add j) = some u := by
      intro i hi
      have hx := hel i hi
      have : elems[i]? = some elems[i] := by simp [hlen, hi]
      rw [this, Option.bind_eq_some_iff] at hx
      obtain ⟨cs, h2, h3⟩ := hx
      obtain ⟨_, k2, k3⟩ := World.cells?_some h2
      obtain ⟨as, hs⟩ := flatT_sound 8 e ks hk n cs _ h3
      refine ⟨as, cs, hs, fun j u hj => ?_⟩
      have hlt := (List.getElem?_eq_some_iff.1 hj).1
      rw [← hc, k3 j (by omega)]; exact hj
    classical
    let F : Nat → List AV := fun i => if h : i < l then Classical.choose (each i h) else []
    let G : Nat → List Value := fun i => if h : i < l then Classical.choose (Classical.choose_spec (each i h)) else []
    have hFG : ∀ i, i < l → ScL ks (F i) (G i) ∧ ∀ j u, (G i)[j]? = some u → w.cell? ((a'.add (i * ks.length)).add j) = some u := by
      intro i hi
      simp only [F, G, hi, dif_pos]
      exact Classical.choose_spec (Classical.choose_spec (each i hi))
    have hspot : 0 < l → a'.spot = none ∧ a'.block < w.heap.size := by
      intro h0
      obtain ⟨s1, s2⟩ := hFG 0 h0
      have hlen := s1.len.1
      have hg : (G 0)[0]? = some (G 0)[0] := by simp [hlen, hpos]
      have := s2 0 _ hg
      have e0 : (a'.add (0 * ks.length)).add 0 = a' := by simp [Addr.add]
      rw [e0] at this
      unfold World.cell? at this
      split at this
      · rename_i c ty fr hk
        have hlt := (Array.getElem?_eq_some_iff.1 hk).1
        refine ⟨?_, hlt⟩
        cases hsp : a'.spot with
        | none => rfl
        | some sp => rw [hsp] at this; simp at this
      · cases this
    refine ⟨l, F, G, Nat.le_trans hl hm, fun ρ => .rs _ _ c _ _ (some a') G hl hm (fun e => by cases e) (fun h0 => ⟨a', rfl, (hspot h0).2, (hspot h0).1, fun i hi j u hj => ?_⟩) (fun i hi => (hFG i hi).1.len.1) (fun i hi => ?_), fun i hi => (hFG i hi).1⟩
    · rw [← add_add _ _ _ (hspot h0).1]
      exact (hFG i hi).2 j u hj
    · rw [(hFG i hi).1.ofSc_cells]; exact (hFG i hi).1.rel
end

theorem ScL.head {s : Sc} {ss : List Sc} {as : List AV} {vs : List Value} (h : ScL (s :: ss) as vs) : ∃ a as' v vs', as = a :: as' ∧ vs = v :: vs' ∧ ScV s a v ∧ ScL ss as' vs' := by
  cases h with | cons _ _ a as v vs h t => exact ⟨a, as, v, vs, rfl, rfl, h, t⟩
theorem ScV.int_inv {k : IntKind} {a : AV} {v : Value} (h : ScV (.int k) a v) : ∃ n, a = .int k n ∧ v = .int k n ∧ (Lit.int k n).wf = true := by
  cases h with | int k n hw => exact ⟨n, rfl, rfl, hw⟩
theorem ScL.done {as : List AV} {vs : List Value} (h : ScL [] as vs) : as = [] ∧ vs = [] := by cases h; exact ⟨rfl, rfl⟩
theorem ofSc_int {k : IntKind} {as : List AV} {vs : List Value} (h : ScL [.int k] as vs) : ∃ n, ofSc as = .int k n := by
  obtain ⟨a, as', v, vs', rfl, rfl, h1, h2⟩ := h.head
  obtain ⟨rfl, rfl⟩ := h2.done
  obtain ⟨n, rfl, _, _⟩ := h1.int_inv
  exact ⟨n, rfl⟩

/-- Rows of numbers, of bools ahead of other cells. -/
theorem ScL.intRow {k : IntKind} {ss : List Sc} : ∀ {n : Nat} {as : List AV} {us : List Value}, ScL (repL n [.int k] ++ ss) as us →
    ∃ (F : Nat → Int) (xs : List Value) (as' : List AV) (us' : List Value), us = xs ++ us' ∧ xs.length = n ∧ (∀ (i : Nat) (u : Value), xs[i]? = some u → u = Value.int k (F i) ∧ (Lit.int k (F i)).wf = true) ∧ ScL ss as' us'
  | 0, as, us, h => ⟨fun _ => 0, [], as, us, rfl, rfl, fun i u hu => by simp at hu, by simpa [repL] using h⟩
  | n + 1, as, us, h => by
    simp only [repL, List.cons_append, List.nil_append] at h
    cases h with
    | cons _ _ a as v vs h1 t =>
      obtain ⟨x, rfl, rfl, hw⟩ := h1.int_inv
      obtain ⟨F, xs, as', us', rfl, hl, hx, hs⟩ := ScL.intRow t
      refine ⟨fun i => match i with | 0 => x | i + 1 => F i, .int k x :: xs, as', us', rfl, by simp [hl], fun i u hu => ?_, hs⟩
      cases i with
      | zero => simp at hu; subst hu; exact ⟨rfl, hw⟩
      | succ i => exact hx i u (by simpa using hu)
theorem ScL.boolRow {ss : List Sc} : ∀ {n : Nat} {as : List AV} {us : List Value}, ScL (repL n [.bool] ++ ss) as us →
    ∃ (F : Nat → Bool) (xs : List Value) (as' : List AV) (us' : List Value), us = xs ++ us' ∧ xs.length = n ∧ (∀ (i : Nat) (u : Value), xs[i]? = some u → u = Value.bool (F i)) ∧ ScL ss as' us'
  | 0, as, us, h => ⟨fun _ => false, [], as, us, rfl, rfl, fun i u hu => by simp at hu, by simpa [repL] using h⟩
  | n + 1, as, us, h => by
    simp only [repL, List.cons_append, List.nil_append] at h
    cases h with
    | cons _ _ a as v vs h1 t =>
      obtain ⟨x, rfl, rfl⟩ : ∃ x, a = .bool x ∧ v = .bool x := by cases h1 with | bool b => exact ⟨b, rfl, rfl⟩
      obtain ⟨F, xs, as', us', rfl, hl, hx, hs⟩ := ScL.boolRow t
      refine ⟨fun i => match i with | 0 => x | i + 1 => F i, .bool x :: xs, as', us', rfl, by simp [hl], fun i u hu => ?_, hs⟩
      cases i with
      | zero => simp at hu; subst hu; rfl
      | succ i => exact hx i u (by simpa using hu)
theorem CRel.intRow {ρ : Env} {ro : Nat → Prop} {w : World} {k : IntKind} {F : Nat → Int} {xs us : List Value} {n : Nat} {cs : List AV} (hl : xs.length = n) (hx : ∀ (i : Nat) (u : Value), xs[i]? = some u → u = Value.int k (F i) ∧ (Lit.int k (F i)).wf = true) (t : CRel ρ ro w cs us) : CRel ρ ro w (.arr n (fun i => .int k (F i)) :: cs) (xs ++ us) :=
  .arr _ _ _ _ _ hl (fun i u hu => by rw [(hx i u hu).1]; exact .int _ _) (fun u hu => by obtain ⟨i, hi⟩ := List.mem_iff_getElem?.1 hu; rw [(hx i u hi).1]; rfl) t
theorem CRel.boolRow {ρ : Env} {ro : Nat → Prop} {w : World} {F : Nat → Bool} {xs us : List Value} {n : Nat} {cs : List AV} (hl : xs.length = n) (hx : ∀ (i : Nat) (u : Value), xs[i]? = some u → u = Value.bool (F i)) (t : CRel ρ ro w cs us) : CRel ρ ro w (.arr n (fun i => .bool (F i)) :: cs) (xs ++ us) :=
  .arr _ _ _ _ _ hl (fun i u hu => by rw [hx i u hu]; exact .bool _) (fun u hu => by obtain ⟨i, hi⟩ := List.mem_iff_getElem?.1 hu; rw [hx i u hi]; rfl) t
end Go.Eng
