/- The engine, part 21b: what is handed in from outside, as abstract values: structs and slices of whatever is flat, one in another. -/
import Derived.Test.YtodnecfgiimclaaEngV
set_option linter.unusedSimpArgs false
set_option linter.unusedVariables false
namespace Go.Eng
inductive Sd where
 | int (k : IntKind) | bool | str | sl (ks : List Sd)
mutual
inductive DV (w : World) : Sd → AV → Value → Prop
 | int (k : IntKind) (n : Int) (h : (Lit.int k n).wf = true) : DV w (.int k) (.int k n) (.int k n)
 | bool (b : Bool) : DV w .bool (.bool b) (.bool b)
 | str (s : ByteArray) (h : s.size ≤ maxLen) : DV w .str (.str s) (.string s)
 | sl (ks : List Sd) (n : Nat) (f : Nat → List AV) (g : Nat → List Value) (v : Value) (h1 : v.oneCell' = true) (h : ∀ ρ, VRel ρ (fun b => b < w.heap.size) w (.rs ks.length n false fun i => ofSc (f i)) v) (hm : n ≤ maxLen) (hs : ∀ i, i < n → DL w ks (f i) (g i)) :
    DV w (.sl ks) (.rs ks.length n false fun i => ofSc (f i)) v
inductive DL (w : World) : List Sd → List AV → List Value → Prop
 | nil : DL w [] [] []
 | cons (s : Sd) (ss : List Sd) (a : AV) (as : List AV) (v : Value) (vs : List Value) (h : DV w s a v) (t : DL w ss as vs) : DL w (s :: ss) (a :: as) (v :: vs)
end
section
variable {w : World}
theorem DV.rel {ρ : Env} {s : Sd} {a : AV} {v : Value} (h : DV w s a v) : VRel ρ (fun b => b < w.heap.size) w a v ∧ v.oneCell' = true ∧ a.cells = [a] := by
 cases h with
 | int k n _ => exact ⟨.int k n, rfl, rfl⟩
 | bool b => exact ⟨.bool b, rfl, rfl⟩
 | str s _ => exact ⟨.str s, rfl, rfl⟩
 | sl ks n f g v h1 h hm hs => exact ⟨h ρ, h1, rfl⟩
theorem DL.rel {ρ : Env} : ∀ {ss : List Sd} {as : List AV} {vs : List Value}, DL w ss as vs → CRel ρ (fun b => b < w.heap.size) w as vs
 | _, _, _, .nil => .nil
 | _, _, _, .cons _ _ _ _ _ _ h t => .cons _ _ _ _ (h.rel (ρ := ρ)).1 (h.rel (ρ := ρ)).2.1 t.rel
theorem DL.append : ∀ {ss : List Sd} {as : List AV} {vs : List Value} {ss' : List Sd} {as' : List AV} {vs' : List Value}, DL w ss as vs → DL w ss' as' vs' → DL w (ss ++ ss') (as ++ as') (vs ++ vs')
 | _, _, _, _, _, _, .nil, h => h
 | _, _, _, _, _, _, .cons _ _ _ _ _ _ h t, h' => .cons _ _ _ _ _ _ h (t.append h')
theorem DL.len : ∀ {ss : List Sd} {as : List AV} {vs : List Value}, DL w ss as vs → vs.length = ss.length ∧ as.length = ss.length
 | _, _, _, .nil => ⟨rfl, rfl⟩
 | _, _, _, .cons _ _ _ _ _ _ _ t => ⟨by simp [t.len.1], by simp [t.len.2]⟩
theorem DL.ofSc_cells {ss : List Sd} {as : List AV} {vs : List Value} (h : DL w ss as vs) : (ofSc as).cells = as := by
 cases h with
 | nil => rfl
 | cons s ss a as v vs h t =>
   cases t with
   | nil => exact (h.rel (ρ := fun _ => none)).2.2
   | cons _ _ _ _ _ _ _ _ => rfl
theorem DL.head {s : Sd} {ss : List Sd} {as : List AV} {vs : List Value} (h : DL w (s :: ss) as vs) : ∃ a as' v vs', as = a :: as' ∧ vs = v :: vs' ∧ DV w s a v ∧ DL w ss as' vs' := by
 cases h with | cons _ _ a as v vs h t => exact ⟨a, as, v, vs, rfl, rfl, h, t⟩
theorem DL.done {as : List AV} {vs : List Value} (h : DL w [] as vs) : as = [] ∧ vs = [] := by cases h; exact ⟨rfl, rfl⟩
theorem DV.int_inv {k : IntKind} {a : AV} {v : Value} (h : DV w (.int k) a v) : ∃ n, a = .int k n ∧ v = .int k n ∧ (Lit.int k n).wf = true := by
 cases h with | int k n hw => exact ⟨n, rfl, rfl, hw⟩
theorem DV.sl_inv {ks : List Sd} {a : AV} {v : Value} (h : DV w (.sl ks) a v) :
 ∃ (n : Nat) (f : Nat → List AV) (g : Nat → List Value), a = .rs ks.length n false (fun i => ofSc (f i)) ∧ v.oneCell' = true ∧ (∀ ρ, VRel ρ (fun b => b < w.heap.size) w (.rs ks.length n false fun i => ofSc (f i)) v) ∧ n ≤ maxLen ∧ ∀ i, i < n → DL w ks (f i) (g i) := by
 cases h with | sl ks n f g v h1 h hm hs => exact ⟨n, f, g, rfl, h1, h, hm, hs⟩
theorem DL.one_int {k : IntKind} {as : List AV} {vs : List Value} (h : DL w [.int k] as vs) : ∃ n, ofSc as = .int k n ∧ (Lit.int k n).wf = true := by
 obtain ⟨a, as', v, vs', rfl, rfl, h1, h2⟩ := h.head
 obtain ⟨rfl, rfl⟩ := h2.done
 obtain ⟨n, rfl, _, hw⟩ := h1.int_inv
 exact ⟨n, rfl, hw⟩
end
def deepFs (g : Nat → Option (List Sd)) (c : Nat → Nat) : Nat → List Field → Option (List Sd)
 | _, [] => some []
 | o, f :: fs => match g f.type, deepFs g c (o + c f.type) fs with
   | some ks, some rest => bif f.offset == o && c f.type == ks.length then some (ks ++ rest) else none
   | _, _ => none
def repD : Nat → List Sd → List Sd
 | 0, _ => []
 | n + 1, ks => ks ++ repD n ks
def deepT (P : Program) : Nat → Nat → Option (List Sd)
 | 0, _ => none
 | d + 1, t => match P.underlying t with
   | some (.int k) => some [.int k]
   | some .bool => some [.bool]
   | some .string => some [.str]
   | some (.struct fs) => (deepFs (deepT P d) P.cellsOf 0 fs.toList).bind fun ks => bif P.cellsOf t == ks.length then some ks else none
   | some (.array n e) => (deepT P d e).bind fun ks => bif P.cellsOf t == n * ks.length && P.cellsOf e == ks.length then some (repD n ks) else none
   | some (.slice e) => (deepT P d e).bind fun ks => bif P.cellsOf e == ks.length && Nat.blt 0 ks.length then some [.sl ks] else none
   | _ => none
section
variable {H : Type} {enc : TypeId × Value → H} {P : Program} {w : World} {base : Nat} {spare : Nat → Bool} {held : Bool}
theorem deepFs_sound {g : Nat → Option (List Sd)} {cs : List Value} {n : Nat} (hg : ∀ t ks, g t = some ks → ∀ (cs : List Value) (x : DataW H × List MemPlace), DataW.trod enc P w base spare held n t cs = some x → ∃ as, DL w ks as cs) :
 ∀ (fs : List Field) (o : Nat) (ks : List Sd), deepFs g P.cellsOf o fs = some ks → (∀ f ∈ fs, ∃ x : DataW H × List MemPlace, DataW.trod enc P w base spare held n f.type ((cs.drop f.offset).take (P.cellsOf f.type)) = some x) → cs.length = o + ks.length → ∃ as, DL w ks as (cs.drop o)
 | [], o, ks, e, _, hl => by
   simp only [deepFs, Option.some.injEq] at e; subst e
   have : cs.drop o = [] := List.drop_eq_nil_of_le (by simp at hl; omega)
   rw [this]; exact ⟨[], .nil⟩
 | f :: fs, o, ks, e, hf, hl => by
   simp only [deepFs] at e
   split at e
   ·rename_i k1 rest h1 h2
    obtain ⟨hb, e⟩ := bif_some e
    simp only [Bool.and_eq_true, beq_iff_eq] at hb
    injection e with e; subst e
    obtain ⟨x, hx⟩ := hf f List.mem_cons_self
    rw [hb.1] at hx
    obtain ⟨as1, s1⟩ := hg _ _ h1 _ x hx
    rw [List.length_append] at hl
    obtain ⟨as2, s2⟩ := deepFs_sound hg fs (o + P.cellsOf f.type) rest h2 (fun g hg => hf g (List.mem_cons_of_mem _ hg)) (by omega)
    refine ⟨as1 ++ as2, ?_⟩
    have := s1.append s2
    rwa [← List.drop_drop, List.take_append_drop] at this
   ·cases e
theorem repD_sound {ks : List Sd} : ∀ (n : Nat) (cs : List Value), cs.length = n * ks.length → (∀ i, i < n → ∃ as, DL w ks as ((cs.drop (i * ks.length)).take ks.length)) → ∃ as, DL w (repD n ks) as cs
 | 0, cs, hl, _ => by
   have : cs = [] := List.eq_nil_of_length_eq_zero (by simpa using hl)
   subst this
   exact ⟨[], .nil⟩
 | n + 1, cs, hl, h => by
   obtain ⟨as1, s1⟩ := h 0 (Nat.succ_pos _)
   simp only [Nat.zero_mul, List.drop_zero] at s1
   obtain ⟨as2, s2⟩ := repD_sound (ks := ks) n (cs.drop ks.length) (by rw [List.length_drop, hl, Nat.succ_mul]; omega) fun i hi => by
    obtain ⟨as, s⟩ := h (i + 1) (by omega)
    rw [List.drop_drop]
    rw [Nat.succ_mul, Nat.add_comm] at s
    exact ⟨as, s⟩
   have := s1.append s2
   rw [List.take_append_drop] at this
   exact ⟨as1 ++ as2, this⟩
theorem deepT_sound : ∀ (d t : Nat) (ks : List Sd), deepT P d t = some ks → ∀ (fuel : Nat) (cs : List Value) (x : DataW H × List MemPlace), DataW.trod enc P w base spare held fuel t cs = some x → ∃ as, DL w ks as cs
 | 0, t, ks, e => by simp [deepT] at e
 | d + 1, t, ks, e => by
   intro fuel cs x hx
   simp only [deepT] at e
   split at e
   ·rename_i k hu
    injection e with e; subst e
    obtain ⟨n, rfl, _, hw⟩ := DataW.trod_int hu hx
    exact ⟨[.int k n], .cons _ _ _ _ _ _ (.int k n hw) .nil⟩
   ·rename_i hu
    injection e with e; subst e
    obtain ⟨b, rfl, _⟩ := DataW.trod_bool hu hx
    exact ⟨[.bool b], .cons _ _ _ _ _ _ (.bool b) .nil⟩
   ·rename_i hu
    injection e with e; subst e
    obtain ⟨s, rfl, _, hs⟩ := DataW.trod_string hu hx
    exact ⟨[.str s], .cons _ _ _ _ _ _ (.str s hs) .nil⟩
   ·rename_i fs hu
    obtain ⟨ks', h1, h2⟩ := Option.bind_eq_some_iff.1 e
    obtain ⟨hb, h2⟩ := bif_some h2
    injection h2 with h2; subst h2
    obtain ⟨xs, n, _, _, hl, hlen, hfs⟩ := DataW.trod_struct hu hx
    have := deepFs_sound (cs := cs) (n := n) (fun t ks ht cs x hx => deepT_sound d t ks ht n cs x hx) fs.toList 0 ks' h1 (fun f hf => by
     obtain ⟨i, hi⟩ := List.mem_iff_getElem?.1 hf
     have hi' : fs[i]? = some f := by simpa using hi
     have hlt := (Array.getElem?_eq_some_iff.1 hi').1
     refine ⟨xs[i], ?_⟩
     rw [hfs i f hi']
     simp [hlen, hlt]) (by rw [hl]; simpa using hb)
    simpa using this
   ·rename_i n el hu
    obtain ⟨ks', h1, h2⟩ := Option.bind_eq_some_iff.1 e
    obtain ⟨hb, h2⟩ := bif_some h2
    injection h2 with h2; subst h2
    simp only [Bool.and_eq_true, beq_iff_eq] at hb
    obtain ⟨xs, m, _, _, hl, hlen, hel⟩ := DataW.trod_array hu hx
    refine repD_sound n cs (by rw [hl, hb.1]) fun i hi => ?_
    have hx' := hel i hi
    have hg : xs[i]? = some xs[i] := by simp [hlen, hi]
    rw [hg, hb.2] at hx'
    exact deepT_sound d el ks' h1 m _ _ hx'
   ·rename_i el hu
    obtain ⟨ks', hk, h2⟩ := Option.bind_eq_some_iff.1 e
    obtain ⟨hb, h2⟩ := bif_some h2
    injection h2 with h2; subst h2
    simp only [Bool.and_eq_true, beq_iff_eq, Nat.blt_eq] at hb
    obtain ⟨hc, hpos⟩ := hb
    rcases DataW.trod_slice hu hx with ⟨h1, _⟩ | ⟨a', l, c, elems, rest, n, _, h1, _, _, hl, hm, hlen, hel, _⟩
    ·subst h1
     exact ⟨[.rs ks'.length 0 false fun i => ofSc ([] : List AV)], .cons _ _ _ _ _ _ (.sl ks' 0 (fun _ => []) (fun _ => []) _ rfl (fun ρ => .rs _ _ 0 _ _ none (fun _ => []) (Nat.le_refl _) (Nat.zero_le _) (fun e => by cases e) (fun h0 => absurd h0 (Nat.lt_irrefl 0)) (fun i hi => absurd hi (Nat.not_lt_zero _)) (fun i hi => absurd hi (Nat.not_lt_zero _))) (Nat.zero_le _) (fun i hi => absurd hi (Nat.not_lt_zero _))) .nil⟩
    ·subst h1
     have each : ∀ i, i < l → ∃ (as : List AV) (us : List Value), DL w ks' as us ∧ ∀ j u, us[j]? = some u → w.cell? ((a'.add (i * ks'.length)).add j) = some u := by
      intro i hi
      have hx := hel i hi
      have : elems[i]? = some elems[i] := by simp [hlen, hi]
      rw [this, Option.bind_eq_some_iff] at hx
      obtain ⟨cs, h2, h3⟩ := hx
      obtain ⟨_, k2, k3⟩ := World.cells?_some h2
      obtain ⟨as, hs⟩ := deepT_sound d el ks' hk n cs _ h3
      refine ⟨as, cs, hs, fun j u hj => ?_⟩
      have hlt := (List.getElem?_eq_some_iff.1 hj).1
      rw [← hc, k3 j (by omega)]; exact hj
     classical
     let F : Nat → List AV := fun i => if h : i < l then Classical.choose (each i h) else []
     let G : Nat → List Value := fun i => if h : i < l then Classical.choose (Classical.choose_spec (each i h)) else []
     have hFG : ∀ i, i < l → DL w ks' (F i) (G i) ∧ ∀ j u, (G i)[j]? = some u → w.cell? ((a'.add (i * ks'.length)).add j) = some u := by
      intro i hi
      simp only [F, G, hi, dif_pos]
      exact Classical.choose_spec (Classical.choose_spec (each i hi))
     have hspot : 0 < l → a'.spot = none ∧ a'.block < w.heap.size := by
      intro h0
      obtain ⟨s1, s2⟩ := hFG 0 h0
      have hlen := s1.len.1
      have hg : (G 0)[0]? = some (G 0)[0] := by simp [hlen, hpos]
      have := s2 0 _ hg
      have e0 : (a'.add (0 * ks'.length)).add 0 = a' := by simp [Addr.add]
      rw [e0] at this
      unfold World.cell? at this
      split at this
      ·rename_i c ty fr hk
       have hlt := (Array.getElem?_eq_some_iff.1 hk).1
       refine ⟨?_, hlt⟩
       cases hsp : a'.spot with
       | none => rfl
       | some sp => rw [hsp] at this; simp at this
      ·cases this
     refine ⟨[.rs ks'.length l false fun i => ofSc (F i)], .cons _ _ _ _ _ _ (.sl ks' l F G _ rfl (fun ρ => .rs _ _ c _ _ (some a') G hl hm (fun e => by cases e) (fun h0 => ⟨a', rfl, (hspot h0).2, (hspot h0).1, fun i hi j u hj => ?_⟩) (fun i hi => (hFG i hi).1.len.1) (fun i hi => ?_)) (Nat.le_trans hl hm) (fun i hi => (hFG i hi).1)) .nil⟩
     ·rw [← add_add _ _ _ (hspot h0).1]
      exact (hFG i hi).2 j u hj
     ·rw [(hFG i hi).1.ofSc_cells]; exact (hFG i hi).1.rel
   ·cases e
theorem open_deepSl {t e : TypeId} {v : Value} {d : DataW H} {ps : List MemPlace} {ks : List Sd} (hu : P.underlying t = some (.slice e)) {r : Reach} {b0 : Nat} (hval : Value.okWide P w r b0 t v) (h : DataW.Trod enc P w base spare held t v d ps) (hk : deepT P 8 t = some [.sl ks]) :
 ∃ a, DV w (.sl ks) a v := by
 obtain ⟨fuel, hf⟩ := h
 have hv : ∃ a l c, v = .slice a l c := by
  unfold Value.okWide at hval
  rw [hu] at hval
  simp only [Cell.okWide, hu, Cell.ok] at hval
  cases v <;> simp at hval
  exact ⟨_, _, _, rfl⟩
 obtain ⟨a, l, c, rfl⟩ := hv
 obtain ⟨as, hs⟩ := deepT_sound 8 t _ hk fuel _ _ hf
 obtain ⟨a', as', v', vs', rfl, e1, h1, h2⟩ := hs.head
 have : v' = .slice a l c := by
  have e2 : (Value.slice a l c).cells.toList = [.slice a l c] := rfl
  rw [e2] at e1
  injection e1 with e1 _; exact e1.symm
 subst this
 exact ⟨a', h1⟩
end
theorem rs_congr {ρ : Env} {ro : Nat → Prop} {w : World} {sz n : Nat} {b : Bool} {f f' : Nat → AV} {v : Value} (h : VRel ρ ro w (.rs sz n b f) v) (hf : ∀ i, i < n → f i = f' i) : VRel ρ ro w (.rs sz n b f') v := by
 cases h with
 | rs _ _ cap _ _ a vals hn hm hfull ha hl hc => exact .rs _ _ cap _ _ a vals hn hm hfull ha hl (fun i hi => hf i hi ▸ hc i hi)
def rowU (f : Nat → List AV) : Nat → AV := fun i => .int .u8 (iv (ofSc (f i)))
theorem rowU_eq {w : World} {n : Nat} {f : Nat → List AV} {g : Nat → List Value} (h : ∀ i, i < n → DL w [.int .u8] (f i) (g i)) : (∀ i, i < n → ofSc (f i) = rowU f i) ∧ ∀ i, i < n → (Lit.int .u8 (iv (ofSc (f i)))).wf = true :=
 ⟨fun i hi => by obtain ⟨n, e, _⟩ := (h i hi).one_int; unfold rowU; rw [e]; rfl, fun i hi => by obtain ⟨n, e, hw⟩ := (h i hi).one_int; rw [e]; exact hw⟩
end Go.Eng