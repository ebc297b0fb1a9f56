/- The engine, part 15: what a piece of code comes to, and that it does. -/
import Derived.Test.YtmlpggggahpoaaaEngN
import Derived.Scope
set_option linter.unusedSimpArgs false
set_option linter.unusedVariables false
namespace Go.Eng

/-- The same state, or one that says less. -/
def Sub (s s' : St) : Prop := s'.nx = s.nx ∧ s'.N = s.N ∧ ∀ n o c, hget s'.h n o = some c → hget s.h n o = some c
inductive Wk (B : Nat) : St → St → Prop
  | sub {s s' : St} (h : Sub s s') : Wk B s s'
  | weak {s s' : St} (h : Weak B s s') : Wk B s s'
  | frz {s : St} (n sz e k : Nat) (f : Nat → AV) (hn : 0 < n) (h : hget s.h n 0 = some (.vec sz e k f)) : Wk B s ⟨frzH n sz k f s.h, s.nx, s.N⟩
  | nil {s : St} (n o sz e : Nat) (f : Nat → AV) (hB : B ≤ s.nx) (h : hget s.h n o = some (.cell .nils)) : Wk B s ⟨nilH n o s.nx sz e f s.h, s.nx + 1, s.N⟩
  | trans {s s' s'' : St} (h : Wk B s s') (k : Wk B s' s'') : Wk B s s''
theorem Wk.refl (B : Nat) (s : St) : Wk B s s := .sub ⟨rfl, rfl, fun _ _ _ h => h⟩

/-- What a piece of code comes to. -/
def evC (T : Tab) (Γ : Specs) (B : Nat) : Code → (Exit → St → Prop) → St → Prop
  | .skip, Q, s => ∃ s0, Wk B s s0 ∧ Q .normal s0
  | .label _, Q, s => ∃ s0, Wk B s s0 ∧ Q .normal s0
  | .region _ ops draw, Q, s => ∃ s0, Wk B s s0 ∧ ∃ dec ps s' s'', evRegion T Γ ops draw dec s0 = some (ps, s') ∧ (∀ p ∈ ps, p) ∧ Wk B s' s'' ∧ Q .normal s''
  | .seq a b, Q, s => evC T Γ B a (fun e s' => match e with | .normal => evC T Γ B b Q s' | e => Q e s') s
  | .cond c a b, Q, s => ∃ s0, Wk B s s0 ∧ match opnd s0.h c with
    | some (.bool q) => All (opndS s0.h [] c ++ [(q = true → evC T Γ B a Q s0) ∧ (q = false → evC T Γ B b Q s0)])
    | _ => False
  | .block id body, Q, s => evC T Γ B body (fun e s' => match e with | .exit id' => if id' = id then Q .normal s' else Q (.exit id') s' | e => Q e s') s
  | .loop c, Q, s => ∃ (ι : Type) (S : ι → St) (μ : ι → Nat) (i0 : ι), Wk B s (S i0) ∧
      ∀ i, evC T Γ B c (fun e s' => match e with | .normal => ∃ i', Wk B s' (S i') ∧ μ i' < μ i | e => Q e s') (S i)
  | .exit id, Q, s => ∃ s0, Wk B s s0 ∧ Q (.exit id) s0
  | .ret, Q, s => ∃ s0, Wk B s s0 ∧ Q .ret s0
  | .scope body, Q, s => evC T Γ B body Q s
  | _, _, _ => False

theorem All_iff : ∀ (ps : List Prop), All ps ↔ ∀ p ∈ ps, p
  | [] => by simp [All]
  | [p] => by simp only [All, List.mem_singleton]; exact ⟨fun h q e => e ▸ h, fun h => h p rfl⟩
  | p :: q :: ps => by
    have := All_iff (q :: ps)
    simp only [All, this]
    constructor
    · rintro ⟨h1, h2⟩ r hr
      rcases List.mem_cons.1 hr with rfl | hr
      · exact h1
      · exact h2 r hr
    · exact fun h => ⟨h p (by simp), fun r hr => h r (List.mem_cons_of_mem _ hr)⟩

theorem All_step {p : Prop} {ps : List Prop} (h : p) (t : All ps) : All (p :: ps) := by
  cases ps with
  | nil => exact h
  | cons q ps => exact ⟨h, t⟩
theorem All_last {p : Prop} (h : p) : All [p] := h

theorem evC_mono {T : Tab} {Γ : Specs} {B : Nat} : ∀ (c : Code) (Q Q' : Exit → St → Prop) (s : St), evC T Γ B c Q s → (∀ e s, Q e s → Q' e s) → evC T Γ B c Q' s := by
  intro c
  induction c with
  | skip => intro Q Q' s ⟨s0, h1, h2⟩ hq; exact ⟨s0, h1, hq _ _ h2⟩
  | label l => intro Q Q' s ⟨s0, h1, h2⟩ hq; exact ⟨s0, h1, hq _ _ h2⟩
  | region id ops draw =>
    intro Q Q' s h hq
    obtain ⟨s0, h0, dec, ps, s', s'', h1, h2, h3, h4⟩ := h
    exact ⟨s0, h0, dec, ps, s', s'', h1, h2, h3, hq _ _ h4⟩
  | seq a b iha ihb =>
    intro Q Q' s h hq
    simp only [evC] at h ⊢
    refine iha _ _ s h fun e s' h' => ?_
    cases e with
    | normal => exact ihb _ _ s' h' hq
    | _ => exact hq _ _ h'
  | cond c a b iha ihb =>
    intro Q Q' s h hq
    simp only [evC] at h ⊢
    obtain ⟨s0, h0, h⟩ := h
    refine ⟨s0, h0, ?_⟩
    split at h
    · rw [All_iff] at h ⊢
      intro p hp
      rcases List.mem_append.1 hp with hp | hp
      · exact h p (List.mem_append_left _ hp)
      · rw [List.mem_singleton.1 hp]
        have := h _ (List.mem_append_right _ (List.mem_singleton.2 rfl))
        exact ⟨fun e => iha _ _ _ (this.1 e) hq, fun e => ihb _ _ _ (this.2 e) hq⟩
    · exact h
  | block id body ih =>
    intro Q Q' s h hq
    simp only [evC] at h ⊢
    refine ih _ _ s h fun e s' h' => ?_
    cases e with
    | exit id' =>
      simp only at h' ⊢
      split at h' <;> rename_i hid
      · rw [if_pos hid]; exact hq _ _ h'
      · rw [if_neg hid]; exact hq _ _ h'
    | _ => exact hq _ _ h'
  | loop c ih =>
    intro Q Q' s h hq
    simp only [evC] at h ⊢
    obtain ⟨ι, S, μ, i0, h1, h2⟩ := h
    refine ⟨ι, S, μ, i0, h1, fun i => ih _ _ _ (h2 i) fun e s' h' => ?_⟩
    cases e with
    | normal => exact h'
    | _ => exact hq _ _ h'
  | scope body ih => intro Q Q' s h hq; exact ih Q Q' s h hq
  | exit id => intro Q Q' s ⟨s0, h1, h2⟩ hq; exact ⟨s0, h1, hq _ _ h2⟩
  | ret => intro Q Q' s ⟨s0, h1, h2⟩ hq; exact ⟨s0, h1, hq _ _ h2⟩
  | _ => intro Q Q' s h; exact h.elim

/-- From a state that says less. -/
theorem evC_wk {T : Tab} {Γ : Specs} {B : Nat} : ∀ (c : Code) {Q : Exit → St → Prop} {s s' : St}, Wk B s s' → evC T Γ B c Q s' → evC T Γ B c Q s := by
  intro c
  induction c with
  | skip => intro Q s s' k ⟨s0, h1, h2⟩; exact ⟨s0, k.trans h1, h2⟩
  | label l => intro Q s s' k ⟨s0, h1, h2⟩; exact ⟨s0, k.trans h1, h2⟩
  | exit id => intro Q s s' k ⟨s0, h1, h2⟩; exact ⟨s0, k.trans h1, h2⟩
  | ret => intro Q s s' k ⟨s0, h1, h2⟩; exact ⟨s0, k.trans h1, h2⟩
  | region id ops draw => intro Q s s' k ⟨s0, h0, h⟩; exact ⟨s0, k.trans h0, h⟩
  | cond c a b _ _ => intro Q s s' k ⟨s0, h0, h⟩; exact ⟨s0, k.trans h0, h⟩
  | seq a b iha _ => intro Q s s' k h; exact iha k h
  | block id body ih => intro Q s s' k h; exact ih k h
  | scope body ih => intro Q s s' k h; exact ih k h
  | loop c _ => intro Q s s' k ⟨ι, S, μ, i0, h1, h2⟩; exact ⟨ι, S, μ, i0, k.trans h1, h2⟩
  | _ => intro Q s s' k h; exact h.elim

section
variable {T : Tab} {Γ : Specs} {B : Nat} {Q : Exit → St → Prop} {s : St}
theorem evC_skip (h : Q .normal s) : evC T Γ B .skip Q s := ⟨s, .refl _ _, h⟩
theorem evC_label {l : Nat} (h : Q .normal s) : evC T Γ B (.label l) Q s := ⟨s, .refl _ _, h⟩
theorem evC_ret (h : Q .ret s) : evC T Γ B .ret Q s := ⟨s, .refl _ _, h⟩
theorem evC_exit {id : Nat} (h : Q (.exit id) s) : evC T Γ B (.exit id) Q s := ⟨s, .refl _ _, h⟩
/-- The second piece from the first one's end on. -/
def Then (T : Tab) (Γ : Specs) (B : Nat) (b : Code) (Q : Exit → St → Prop) : Exit → St → Prop
  | .normal, s => evC T Γ B b Q s
  | e, s => Q e s
theorem evC_seq {a b : Code} (h : evC T Γ B a (Then T Γ B b Q) s) : evC T Γ B (.seq a b) Q s := by
  refine evC_mono a _ _ s h fun e s' h' => ?_
  cases e with
  | normal => exact h'
  | _ => exact h'
/-- From one of some states on, instead. -/
theorem evC_cut {a b : Code} {ι : Type} (S : ι → St) (h : evC T Γ B a (fun e s' => match e with | .normal => ∃ i, Wk B s' (S i) | e => Q e s') s) (hb : ∀ i, evC T Γ B b Q (S i)) : evC T Γ B (.seq a b) Q s := by
  refine evC_mono a _ _ s h fun e s' h' => ?_
  cases e with
  | normal => obtain ⟨i, hi⟩ := h'; exact evC_wk b hi (hb i)
  | _ => exact h'
theorem evC_region {id : Nat} {ops : Array Oper} {draw : Bool} {dec : List (Nat × Bool)} {ps : List Prop} {s' s'' : St} (e : evRegion T Γ ops draw dec s = some (ps, s')) (hs : ∀ p ∈ ps, p) (hw : Wk B s' s'') (h : Q .normal s'') : evC T Γ B (.region id ops draw) Q s := ⟨s, .refl _ _, dec, ps, s', s'', e, hs, hw, h⟩
theorem evC_cond {c : Operand} {a b : Code} {q : Bool} (e : opnd s.h c = some (.bool q)) (h : All (opndS s.h [] c ++ [(q = true → evC T Γ B a Q s) ∧ (q = false → evC T Γ B b Q s)])) : evC T Γ B (.cond c a b) Q s := by
  refine ⟨s, .refl _ _, ?_⟩
  simp only [e]; exact h
def InBlock (id : Nat) (Q : Exit → St → Prop) : Exit → St → Prop
  | .exit id', s => if id' = id then Q .normal s else Q (.exit id') s
  | e, s => Q e s
theorem evC_block {id : Nat} {c : Code} (h : evC T Γ B c (InBlock id Q) s) : evC T Γ B (.block id c) Q s := by
  refine evC_mono c _ _ s h fun e s' h' => ?_
  cases e <;> exact h'
def Round {ι : Type} (B : Nat) (S : ι → St) (μ : ι → Nat) (n : Nat) (Q : Exit → St → Prop) : Exit → St → Prop
  | .normal, s => ∃ i, Wk B s (S i) ∧ μ i < n
  | e, s => Q e s
theorem evC_loop {c : Code} {ι : Type} (S : ι → St) (μ : ι → Nat) (i0 : ι) (h0 : Wk B s (S i0)) (h : ∀ i, evC T Γ B c (Round B S μ (μ i) Q) (S i)) : evC T Γ B (.loop c) Q s := by
  refine ⟨ι, S, μ, i0, h0, fun i => evC_mono c _ _ _ (h i) fun e s' h' => ?_⟩
  cases e <;> exact h'
end

theorem Sub.holds {s s' : St} (k : Sub s s') {mine : Nat → Prop} {ρ : Env} {ro : Nat → Prop} {a : Act} {w : World} (h : Holds mine ρ ro s a w) : Holds mine ρ ro s' a w := by
  obtain ⟨h1, h2, h3⟩ := k
  refine ⟨⟨?_, fun t v ht => h.ok.slots t v (h3 _ _ _ ht), h2 ▸ h.ok.size, h.ok.defers⟩, h1 ▸ h.fresh, h1 ▸ h.pos⟩
  have S := h.ok.sim
  have lv : ∀ n, live s'.h n → live s.h n := fun n ⟨o, c, k1, k2⟩ => ⟨o, c, h3 _ _ _ k1, k2⟩
  exact ⟨fun n o c hn hc => S.cont n o c hn (h3 _ _ _ hc), fun n m x y b hn hm hne hl hl' => S.dist n m x y b hn hm hne (lv n hl) (lv m hl'), S.new, S.zero, fun n o o' c c' hn k1 k2 => S.lay n o o' c c' hn (h3 _ _ _ k1) (h3 _ _ _ k2)⟩

theorem Wk.holds {B : Nat} {s s' : St} (k : Wk B s s') : ∀ {mine : Nat → Prop} {ρ : Env} {ro : Nat → Prop} {a : Act} {w : World}, Holds mine ρ ro s a w → ∃ ρ' ro', Keep B mine ρ ρ' ro ro' w w ∧ Holds mine ρ' ro' s' a w := by
  induction k with
  | sub k => intro mine ρ ro a w h; exact ⟨ρ, ro, .refl _ _ _ _ _, k.holds h⟩
  | weak k => intro mine ρ ro a w h; obtain ⟨ρ', h1, h2⟩ := k.holds h; exact ⟨ρ', ro, h1, h2⟩
  | frz n sz e k f hn hc => intro mine ρ ro a w h; obtain ⟨ro', h1, h2⟩ := frz_holds (B := B) hn hc h; exact ⟨ρ, ro', h1, h2⟩
  | nil n o sz e f hB hc => intro mine ρ ro a w h; obtain ⟨ρ', h1, h2⟩ := nil_holds (sz := sz) (e := e) (f := f) hB hc h; exact ⟨ρ', ro, h1, h2⟩
  | trans _ _ ih1 ih2 =>
    intro mine ρ ro a w h
    obtain ⟨ρ1, ro1, k1, h1⟩ := ih1 h
    obtain ⟨ρ2, ro2, k2, h2⟩ := ih2 h1
    exact ⟨ρ2, ro2, k1.trans k2, h2⟩

theorem drawn_holds {mine : Nat → Prop} {ρ : Env} {ro : Nat → Prop} {h : Heap} {N : Nat} {a : Act} {w : World} (S : StOK mine ρ ro h N a w) : StOK mine ρ ro h N a { w with drawn := w.drawn + 1 } := by
  refine ⟨S.sim.more (Nat.le_refl _) (fun _ _ => rfl), S.slots.grow ⟨fun _ _ h => h, fun _ h => h, fun _ _ => rfl⟩, S.size, S.defers⟩

def NG (e : Exit) : Prop := ∀ l, e ≠ .goto l
/-- Nothing here jumps. -/
theorem evC_ng {T : Tab} {Γ : Specs} {B : Nat} : ∀ (c : Code) (Q : Exit → St → Prop) (s : St), evC T Γ B c Q s → evC T Γ B c (fun e s => NG e ∧ Q e s) s := by
  intro c
  induction c with
  | skip => intro Q s ⟨s0, h1, h2⟩; exact ⟨s0, h1, (fun l h => by cases h), h2⟩
  | label l => intro Q s ⟨s0, h1, h2⟩; exact ⟨s0, h1, (fun l h => by cases h), h2⟩
  | exit id => intro Q s ⟨s0, h1, h2⟩; exact ⟨s0, h1, (fun l h => by cases h), h2⟩
  | ret => intro Q s ⟨s0, h1, h2⟩; exact ⟨s0, h1, (fun l h => by cases h), h2⟩
  | region id ops draw =>
    intro Q s h
    obtain ⟨s0, h0, dec, ps, s', s'', h1, h2, h3, h4⟩ := h
    exact ⟨s0, h0, dec, ps, s', s'', h1, h2, h3, (fun l h => by cases h), h4⟩
  | seq a b iha ihb =>
    intro Q s h
    refine evC_mono a _ _ s (iha _ _ h) fun e s' h' => ?_
    obtain ⟨h1, h2⟩ := h'
    cases e with
    | normal => exact ihb _ _ h2
    | goto l => exact absurd rfl (h1 l)
    | _ => exact ⟨h1, h2⟩
  | cond c a b iha ihb =>
    intro Q s h
    obtain ⟨s0, h0, h⟩ := h
    refine ⟨s0, h0, ?_⟩
    split at h
    · rw [All_iff] at h ⊢
      intro p hp
      rcases List.mem_append.1 hp with hp | hp
      · exact h p (List.mem_append_left _ hp)
      · have := h _ (List.mem_append_right _ List.mem_cons_self)
        rw [List.mem_singleton.1 hp]
        exact ⟨fun e => iha _ _ (this.1 e), fun e => ihb _ _ (this.2 e)⟩
    · exact h.elim
  | block id body ih =>
    intro Q s h
    refine evC_mono body _ _ s (ih _ _ h) fun e s' h' => ?_
    obtain ⟨h1, h2⟩ := h'
    cases e with
    | exit id' =>
      show if id' = id then _ else _
      have h2 : if id' = id then Q .normal s' else Q (.exit id') s' := h2
      split
      · rename_i he; rw [if_pos he] at h2; exact ⟨(fun l h => by cases h), h2⟩
      · rename_i he; rw [if_neg he] at h2; exact ⟨h1, h2⟩
    | _ => exact ⟨h1, h2⟩
  | loop c ih =>
    intro Q s h
    obtain ⟨ι, S, μ, i0, h1, h2⟩ := h
    refine ⟨ι, S, μ, i0, h1, fun i => evC_mono c _ _ _ (ih _ _ (h2 i)) fun e s' h' => ?_⟩
    obtain ⟨h3, h4⟩ := h'
    cases e with
    | normal => exact h4
    | _ => exact ⟨h3, h4⟩
  | scope body ih => intro Q s h; exact ih _ _ h
  | _ => intro Q s h; exact h.elim
theorem evC_scope {T : Tab} {Γ : Specs} {B : Nat} {Q : Exit → St → Prop} {s : St} {c : Code} (h : evC T Γ B c Q s) : evC T Γ B (.scope c) Q s := h
theorem evC_sound {P : Program} (hm : P.follows .mixedOrders = true) {T : Tab} (hT : TabOK P T) {Γ : Specs} (hΓ : SpecsOK P Γ) {B : Nat} {mine : Nat → Prop} : ∀ (c : Code) (Q : Exit → St → Prop) (s : St) (ρ : Env) (ro : Nat → Prop) (a : Act) (w : World) (K : Exit → Act → World → Prop),
    evC T Γ B c Q s → Holds mine ρ ro s a w → (∀ e s' ρ' ro' a' w', Q e s' → Keep B mine ρ ρ' ro ro' w w' → Holds mine ρ' ro' s' a' w' → K e a' w') → c.wp P K a w := by
  intro c
  induction c with
  | skip => intro Q s ρ ro a w K ⟨s0, k, h⟩ H hK; obtain ⟨ρ', ro', k1, H1⟩ := k.holds H; exact wp_skip (hK _ _ _ _ _ _ h k1 H1)
  | label l => intro Q s ρ ro a w K ⟨s0, k, h⟩ H hK; obtain ⟨ρ', ro', k1, H1⟩ := k.holds H; exact wp_label (hK _ _ _ _ _ _ h k1 H1)
  | exit id => intro Q s ρ ro a w K ⟨s0, k, h⟩ H hK; obtain ⟨ρ', ro', k1, H1⟩ := k.holds H; exact wp_exit (hK _ _ _ _ _ _ h k1 H1)
  | ret => intro Q s ρ ro a w K ⟨s0, k, h⟩ H hK; obtain ⟨ρ', ro', k1, H1⟩ := k.holds H; exact wp_ret (hK _ _ _ _ _ _ h k1 H1)
  | scope body ih =>
    intro Q s ρ ro a w K h H hK
    refine wp_scope_straight (ih _ s ρ ro a w _ (evC_ng body Q s h) H fun e s' ρ' ro' a' w' hq hk hH => ?_)
    cases e with
    | goto l => exact absurd rfl (hq.1 l)
    | _ => exact hK _ _ _ _ _ _ hq.2 hk hH
  | region id ops draw =>
    intro Q s ρ ro a w K h H hK
    obtain ⟨s0, k0, dec, ps, s', s2, e, hs, hw, hq⟩ := h
    obtain ⟨ρ0, ro0, k1, H0⟩ := k0.holds H
    unfold evRegion at e
    obtain ⟨r, h1, h2⟩ := Option.map_eq_some_iff.1 e
    injection h2 with h2 h3
    subst h3
    have hs1 : ∀ p ∈ r.1, p := fun p hp => hs p (h2 ▸ List.mem_append_left _ hp)
    cases draw with
    | false =>
      refine wp_region_list (evOps_sound hT hΓ H0.pos _ 0 ρ0 ro0 s0.h r.2.2 a w r.1 r.2.1 h1 hs1 H0.ok (fun n hn => H0.fresh n (by omega)) fun ρ' ro' a' w' g st S' hf => ?_)
      obtain ⟨ρ2, ro2, k2, H2⟩ := hw.holds (⟨S', fun n hn => hf n (by simpa using hn), by have := H0.pos; show 0 < s0.nx + 8 * ops.size; omega⟩ : Holds mine ρ' ro' ⟨r.2.2, s0.nx + 8 * ops.size, s0.N⟩ a' w')
      exact hK _ _ _ _ _ _ hq ((k1.trans (Keep.of g st)).trans k2) H2
    | true =>
      have hd : drawOK ops r.2.1 = true := hs _ (h2 ▸ List.mem_append_right _ (by simp))
      have st0 : Step mine w { w with drawn := w.drawn + 1 } := ⟨rfl, rfl, rfl, Nat.le_refl _, fun _ _ _ => rfl⟩
      refine wp_region_any hm (evRegion_draw hT hΓ H0.pos h1 hs1 hd (drawn_holds H0.ok) H0.fresh fun ρ' ro' a' w' g st S' hf => ?_)
      obtain ⟨ρ2, ro2, k2, H2⟩ := hw.holds (⟨S', hf, by have := H0.pos; show 0 < s0.nx + 8 * ops.size; omega⟩ : Holds mine ρ' ro' ⟨r.2.2, s0.nx + 8 * ops.size, s0.N⟩ a' w')
      have kk : Keep B mine ρ0 ρ' ro0 ro' w w' := ⟨fun n v _ h => g.g.env n v h, g.g.more, g.own, fun b hb => g.g.heap b hb, st0.trans st⟩
      exact hK _ _ _ _ _ _ hq ((k1.trans kk).trans k2) H2
  | seq x y ihx ihy =>
    intro Q s ρ ro a w K h H hK
    refine wp_seq (ihx _ s ρ ro a w _ h H fun e s' ρ' ro' a' w' hq hk H' => ?_)
    cases e with
    | normal =>
      exact ihy _ s' ρ' ro' a' w' _ hq H' fun e2 s2 ρ2 ro2 a2 w2 q2 k3 H2 => hK _ _ _ _ _ _ q2 (hk.trans k3) H2
    | _ => exact hK _ _ _ _ _ _ hq hk H'
  | cond c x y ihx ihy =>
    intro Q s ρ ro a w K h H hK
    simp only [evC] at h
    obtain ⟨s0, k0, h⟩ := h
    obtain ⟨ρ0, ro0, k1, H0⟩ := k0.holds H
    split at h
    · rename_i q e
      rw [All_iff] at h
      have hv := opnd_sound H0.ok.slots (co := []) rfl (hL := s0.h) (fun _ _ => rfl) (fun p hp => h p (List.mem_append_left _ hp)) e
      have hc := VRel.bool_inv hv
      have := h _ (List.mem_append_right _ (List.mem_singleton.2 rfl))
      exact wp_cond_split hc (fun ht => ihx _ s0 ρ0 ro0 a w K (this.1 ht) H0 fun e2 s2 ρ2 ro2 a2 w2 q2 k3 H2 => hK _ _ _ _ _ _ q2 (k1.trans k3) H2) (fun ht => ihy _ s0 ρ0 ro0 a w K (this.2 ht) H0 fun e2 s2 ρ2 ro2 a2 w2 q2 k3 H2 => hK _ _ _ _ _ _ q2 (k1.trans k3) H2)
    · exact h.elim
  | block id body ih =>
    intro Q s ρ ro a w K h H hK
    refine wp_block (ih _ s ρ ro a w _ h H fun e s' ρ' ro' a' w' hq hk H' => ?_)
    cases e with
    | exit id' =>
      simp only [Exit.inBlock] at hq ⊢
      split at hq <;> rename_i hid
      · rw [if_pos hid]; exact hK _ _ _ _ _ _ hq hk H'
      · rw [if_neg hid]; exact hK _ _ _ _ _ _ hq hk H'
    | _ => exact hK _ _ _ _ _ _ hq hk H'
  | loop c ih =>
    intro Q s ρ ro a w K h H hK
    obtain ⟨ι, S, μ, i0, h0, hr⟩ := h
    obtain ⟨ρ0, ro0, k0, H0⟩ := h0.holds H
    have key : ∀ (n : Nat) (i : ι) (ρ1 : Env) (ro1 : Nat → Prop) (a1 : Act) (w1 : World), μ i < n → Keep B mine ρ ρ1 ro ro1 w w1 → Holds mine ρ1 ro1 (S i) a1 w1 → Code.rounds P c K n a1 w1 := by
      intro n
      induction n with
      | zero => intro i ρ1 ro1 a1 w1 hlt; omega
      | succ n ihn =>
        intro i ρ1 ro1 a1 w1 hlt hk H1
        rw [rounds_succ]
        refine ih _ (S i) ρ1 ro1 a1 w1 _ (hr i) H1 fun e s' ρ' ro' a' w' hq hk' H' => ?_
        cases e with
        | normal =>
          obtain ⟨i', h1, h2⟩ := hq
          obtain ⟨ρ2, ro2, k2, H2⟩ := h1.holds H'
          exact ihn i' ρ2 ro2 a' w' (by omega) ((hk.trans hk').trans k2) H2
        | _ => exact hK _ _ _ _ _ _ hq (hk.trans hk') H'
    exact wp_loop_rounds (μ i0 + 1) (key _ i0 ρ0 ro0 a w (by omega) k0 H0)
  | _ => intro Q s ρ ro a w K h; exact h.elim
end Go.Eng
