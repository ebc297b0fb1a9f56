/- The engine, part 15: what a piece of code comes to, and that it does. -/
import Derived.Test.YtodnecfgiimclaaEngN
import Derived.Scope
import Derived.LoopNIn
set_option linter.unusedSimpArgs false
set_option linter.unusedVariables false
namespace Go.Eng
def Sub (s s' : St) : Prop := s'.nx = s.nx ∧ s'.N = s.N ∧ ∀ n o c, hget s'.h n o = some c → hget s.h n o = some c
inductive Wk (B : Nat) : St → St → Prop
 | sub {s s' : St} (h : Sub s s') : Wk B s s'
 | weak {s s' : St} (h : Weak B s s') : Wk B s s'
 | frz {s : St} (n sz e k : Nat) (f : Nat → AV) (hn : 0 < n) (h : hget s.h n 0 = some (.vec sz e k f)) : Wk B s ⟨frzH n sz k f s.h, s.nx, s.N⟩
 | frzP {s : St} (n : Nat) (ds : List AV) (hn : 0 < n) (hd : 0 < ds.length) (h : cellsAt s.h n 0 ds) : Wk B s ⟨frzPH n ds s.h, s.nx, s.N⟩
 | nil {s : St} (n o sz e : Nat) (f : Nat → AV) (hB : B ≤ s.nx) (h : hget s.h n o = some (.cell .nils)) : Wk B s ⟨nilH n o s.nx sz e f s.h, s.nx + 1, s.N⟩
 | imp {s : St} (n o : Nat) (v v' : AV) (h : hget s.h n o = some (.cell v)) (hv : VI v v') : Wk B s ⟨(n, o, .cell v') :: s.h, s.nx, s.N⟩
 | take {s s' : St} (n : Nat) (hB : B ≤ s.nx) (h : TakeL n s s') : Wk B s s'
 | trans {s s' s'' : St} (h : Wk B s s') (k : Wk B s' s'') : Wk B s s''
theorem Wk.refl (B : Nat) (s : St) : Wk B s s := .sub ⟨rfl, rfl, fun _ _ _ h => h⟩
def onlyS : Heap → Bool
 | [] => true
 | x :: h => x.1 == 0 && onlyS h
def noS : Heap → Bool
 | [] => true
 | x :: h => !(x.1 == 0) && noS h
def RPost (nx N : Nat) (hs : Heap) {ι : Type} (S : ι → Heap) (Q : Exit → St → Prop) : Exit → St → Prop
 | .normal, s => ∃ i, Wk nx s ⟨S i, nx, N⟩
 | .ret, s => ∃ hx, noS hx = true ∧ Wk nx s ⟨hx, nx, N⟩ ∧ Q .ret ⟨hs ++ hx, nx, N⟩
 | _, _ => False
def evC (T : Tab) (Γ : Specs) : Nat → Code → (Exit → St → Prop) → St → Prop
 | B, .skip, Q, s => ∃ s0, Wk B s s0 ∧ Q .normal s0
 | B, .label _, Q, s => ∃ s0, Wk B s s0 ∧ Q .normal s0
 | B, .region _ ops draw, Q, s => ∃ s0, Wk B s s0 ∧ ∃ dec ps s' s'', evRegion T Γ ops draw dec s0 = some (ps, s') ∧ (∀ p ∈ ps, p) ∧ Wk B s' s'' ∧ Q .normal s''
 | B, .seq a b, Q, s => evC T Γ B a (fun e s' => match e with | .normal => evC T Γ B b Q s' | e => Q e s') s
 | B, .cond c a b, Q, s => ∃ s0, Wk B s s0 ∧ match opnd s0.h c with
   | some (.bool q) => All (opndS s0.h [] c ++ [(q = true → evC T Γ B a Q s0) ∧ (q = false → evC T Γ B b Q s0)])
   | _ => False
 | B, .block id body, Q, s => evC T Γ B body (fun e s' => match e with | .exit id' => if id' = id then Q .normal s' else Q (.exit id') s' | e => Q e s') s
 | B, .loop c, Q, s => ∃ (ι : Type) (S : ι → St) (μ : ι → Nat) (i0 : ι), Wk B s (S i0) ∧
    ∀ i, evC T Γ B c (fun e s' => match e with | .normal => ∃ i', Wk B s' (S i') ∧ μ i' < μ i | e => Q e s') (S i)
 | B, .exit id, Q, s => ∃ s0, Wk B s s0 ∧ Q (.exit id) s0
 | B, .ret, Q, s => ∃ s0, Wk B s s0 ∧ Q .ret s0
 | B, .scope body, Q, s => evC T Γ B body Q s
 | B, .rangeFunc g ps assign body, Q, s => ∃ (t gf sz k nx N c b : Nat) (z : List AV) (fl : Bool) (f : Nat → AV) (p : Nat) (hs : Heap) (ι : Nat → Type) (S : (j : Nat) → ι j → Heap) (i0 : ι 0),
    (tget T t = some ⟨c, b, .iter gf sz, z⟩ ∧ ps = #[p] ∧ p < N ∧ B ≤ nx ∧ onlyS hs = true ∧ (∀ k i, noS (S k i) = true)) ∧ Wk B s ⟨hs ++ S 0 i0, nx, N⟩ ∧
    (opnd hs g = some (.fn gf [.rp [.rs sz k fl f]]) ∧ (∀ q ∈ opndS hs [] g, q) ∧ ∀ j, j < k → ∃ xs : List Int, (f j).cells = xs.map (AV.int .i64)) ∧
    (∀ j i, j < k → evC T Γ nx assign (fun e s1 => match e with | .normal => evC T Γ nx body (RPost nx N hs (S (j + 1)) Q) s1 | _ => False) ⟨(0, p, .cell (.agg (f j).cells)) :: (hs ++ S j i), nx, N⟩) ∧
    ∀ i, Q .normal ⟨hs ++ S k i, nx, N⟩
 | _, _, _, _ => False
theorem All_iff : ∀ (ps : List Prop), All ps ↔ ∀ p ∈ ps, p
 | [] => by simp [All]
 | [p] => by simp only [All, List.mem_singleton]; exact ⟨fun h q e => e ▸ h, fun h => h p rfl⟩
 | p :: q :: ps => by
   have := All_iff (q :: ps)
   simp only [All, this]
   constructor
   ·rintro ⟨h1, h2⟩ r hr
    rcases List.mem_cons.1 hr with rfl | hr
    ·exact h1
    ·exact h2 r hr
   ·exact fun h => ⟨h p (by simp), fun r hr => h r (List.mem_cons_of_mem _ hr)⟩
theorem RPost.mono {nx N : Nat} {hs : Heap} {ι : Type} {S : ι → Heap} {Q Q' : Exit → St → Prop} (hq : ∀ e s, Q e s → Q' e s) {e : Exit} {s : St} (h : RPost nx N hs S Q e s) : RPost nx N hs S Q' e s := by
 cases e with
 | normal => exact h
 | ret => obtain ⟨hx, h1, h2, h3⟩ := h; exact ⟨hx, h1, h2, hq _ _ h3⟩
 | _ => exact h.elim
theorem evC_mono' {T : Tab} {Γ : Specs} : ∀ (c : Code) (B : Nat) (Q Q' : Exit → St → Prop) (s : St), evC T Γ B c Q s → (∀ e s, Q e s → Q' e s) → evC T Γ B c Q' s := by
 intro c
 induction c with
 | skip => intro B Q Q' s ⟨s0, h1, h2⟩ hq; exact ⟨s0, h1, hq _ _ h2⟩
 | label l => intro B Q Q' s ⟨s0, h1, h2⟩ hq; exact ⟨s0, h1, hq _ _ h2⟩
 | region id ops draw =>
   intro B Q Q' s h hq
   obtain ⟨s0, h0, dec, ps, s', s'', h1, h2, h3, h4⟩ := h
   exact ⟨s0, h0, dec, ps, s', s'', h1, h2, h3, hq _ _ h4⟩
 | seq a b iha ihb =>
   intro B Q Q' s h hq
   simp only [evC] at h ⊢
   refine iha _ _ _ s h fun e s' h' => ?_
   cases e with
   | normal => exact ihb _ _ _ s' h' hq
   | _ => exact hq _ _ h'
 | cond c a b iha ihb =>
   intro B Q Q' s h hq
   simp only [evC] at h ⊢
   obtain ⟨s0, h0, h⟩ := h
   refine ⟨s0, h0, ?_⟩
   split at h
   ·rw [All_iff] at h ⊢
    intro p hp
    rcases List.mem_append.1 hp with hp | hp
    ·exact h p (List.mem_append_left _ hp)
    ·rw [List.mem_singleton.1 hp]
     have := h _ (List.mem_append_right _ (List.mem_singleton.2 rfl))
     exact ⟨fun e => iha _ _ _ _ (this.1 e) hq, fun e => ihb _ _ _ _ (this.2 e) hq⟩
   ·exact h
 | block id body ih =>
   intro B Q Q' s h hq
   simp only [evC] at h ⊢
   refine ih _ _ _ s h fun e s' h' => ?_
   cases e with
   | exit id' =>
     simp only at h' ⊢
     split at h' <;> rename_i hid
     ·rw [if_pos hid]; exact hq _ _ h'
     ·rw [if_neg hid]; exact hq _ _ h'
   | _ => exact hq _ _ h'
 | loop c ih =>
   intro B Q Q' s h hq
   simp only [evC] at h ⊢
   obtain ⟨ι, S, μ, i0, h1, h2⟩ := h
   refine ⟨ι, S, μ, i0, h1, fun i => ih _ _ _ _ (h2 i) fun e s' h' => ?_⟩
   cases e with
   | normal => exact h'
   | _ => exact hq _ _ h'
 | scope body ih => intro B Q Q' s h hq; exact ih B Q Q' s h hq
 | exit id => intro B Q Q' s ⟨s0, h1, h2⟩ hq; exact ⟨s0, h1, hq _ _ h2⟩
 | ret => intro B Q Q' s ⟨s0, h1, h2⟩ hq; exact ⟨s0, h1, hq _ _ h2⟩
 | rangeFunc g ps assign body iha ihb =>
   intro B Q Q' s h hq
   simp only [evC] at h ⊢
   obtain ⟨t, gf, sz, k, nx, N, c, b, z, fl, f, p, hs, ι, S, i0, h1, h2, h3, h4, h5⟩ := h
   refine ⟨t, gf, sz, k, nx, N, c, b, z, fl, f, p, hs, ι, S, i0, h1, h2, h3, fun j i hj => iha _ _ _ _ (h4 j i hj) fun e s1 he => ?_, fun i => hq _ _ (h5 i)⟩
   cases e with
   | normal => exact ihb _ _ _ _ he fun e' s' h' => h'.mono hq
   | _ => exact he
 | _ => intro B Q Q' s h; exact h.elim
theorem evC_mono {T : Tab} {Γ : Specs} {B : Nat} (c : Code) (Q Q' : Exit → St → Prop) (s : St) (h : evC T Γ B c Q s) (hq : ∀ e s, Q e s → Q' e s) : evC T Γ B c Q' s := evC_mono' c B Q Q' s h hq
theorem evC_wk {T : Tab} {Γ : Specs} {B : Nat} : ∀ (c : Code) {Q : Exit → St → Prop} {s s' : St}, Wk B s s' → evC T Γ B c Q s' → evC T Γ B c Q s := by
 intro c
 induction c with
 | skip => intro Q s s' k ⟨s0, h1, h2⟩; exact ⟨s0, k.trans h1, h2⟩
 | label l => intro Q s s' k ⟨s0, h1, h2⟩; exact ⟨s0, k.trans h1, h2⟩
 | exit id => intro Q s s' k ⟨s0, h1, h2⟩; exact ⟨s0, k.trans h1, h2⟩
 | ret => intro Q s s' k ⟨s0, h1, h2⟩; exact ⟨s0, k.trans h1, h2⟩
 | region id ops draw => intro Q s s' k ⟨s0, h0, h⟩; exact ⟨s0, k.trans h0, h⟩
 | cond c a b _ _ => intro Q s s' k ⟨s0, h0, h⟩; exact ⟨s0, k.trans h0, h⟩
 | seq a b iha _ => intro Q s s' k h; exact iha k h
 | block id body ih => intro Q s s' k h; exact ih k h
 | scope body ih => intro Q s s' k h; exact ih k h
 | loop c _ => intro Q s s' k ⟨ι, S, μ, i0, h1, h2⟩; exact ⟨ι, S, μ, i0, k.trans h1, h2⟩
 | rangeFunc g ps assign body _ _ => intro Q s s' k ⟨t, gf, sz, n, nx, N, c, b, z, fl, f, p, hs, ι, S, i0, h1, h2, h3⟩; exact ⟨t, gf, sz, n, nx, N, c, b, z, fl, f, p, hs, ι, S, i0, h1, k.trans h2, h3⟩
 | _ => intro Q s s' k h; exact h.elim
section
variable {T : Tab} {Γ : Specs} {B : Nat} {Q : Exit → St → Prop} {s : St}
theorem evC_skip (h : Q .normal s) : evC T Γ B .skip Q s := ⟨s, .refl _ _, h⟩
theorem evC_ret (h : Q .ret s) : evC T Γ B .ret Q s := ⟨s, .refl _ _, h⟩
theorem evC_exit {id : Nat} (h : Q (.exit id) s) : evC T Γ B (.exit id) Q s := ⟨s, .refl _ _, h⟩
def Then (T : Tab) (Γ : Specs) (B : Nat) (b : Code) (Q : Exit → St → Prop) : Exit → St → Prop
 | .normal, s => evC T Γ B b Q s
 | e, s => Q e s
theorem evC_seq {a b : Code} (h : evC T Γ B a (Then T Γ B b Q) s) : evC T Γ B (.seq a b) Q s := by
 refine evC_mono a _ _ s h fun e s' h' => ?_
 cases e with
 | normal => exact h'
 | _ => exact h'
theorem evC_region {id : Nat} {ops : Array Oper} {draw : Bool} {dec : List (Nat × Bool)} {ps : List Prop} {s' s'' : St} (e : evRegion T Γ ops draw dec s = some (ps, s')) (hs : ∀ p ∈ ps, p) (hw : Wk B s' s'') (h : Q .normal s'') : evC T Γ B (.region id ops draw) Q s := ⟨s, .refl _ _, dec, ps, s', s'', e, hs, hw, h⟩
theorem evC_cond {c : Operand} {a b : Code} {q : Bool} (e : opnd s.h c = some (.bool q)) (h : All (opndS s.h [] c ++ [(q = true → evC T Γ B a Q s) ∧ (q = false → evC T Γ B b Q s)])) : evC T Γ B (.cond c a b) Q s := by
 refine ⟨s, .refl _ _, ?_⟩
 simp only [e]; exact h
def InBlock (id : Nat) (Q : Exit → St → Prop) : Exit → St → Prop
 | .exit id', s => if id' = id then Q .normal s else Q (.exit id') s
 | e, s => Q e s
theorem evC_block {id : Nat} {c : Code} (h : evC T Γ B c (InBlock id Q) s) : evC T Γ B (.block id c) Q s := by
 refine evC_mono c _ _ s h fun e s' h' => ?_
 cases e <;> exact h'
def Round {ι : Type} (B : Nat) (S : ι → St) (μ : ι → Nat) (n : Nat) (Q : Exit → St → Prop) : Exit → St → Prop
 | .normal, s => ∃ i, Wk B s (S i) ∧ μ i < n
 | e, s => Q e s
theorem evC_loop {c : Code} {ι : Type} (S : ι → St) (μ : ι → Nat) (i0 : ι) (h0 : Wk B s (S i0)) (h : ∀ i, evC T Γ B c (Round B S μ (μ i) Q) (S i)) : evC T Γ B (.loop c) Q s := by
 refine ⟨ι, S, μ, i0, h0, fun i => evC_mono c _ _ _ (h i) fun e s' h' => ?_⟩
 cases e <;> exact h'
end
theorem Sub.holds {s s' : St} (k : Sub s s') {mine : Nat → Prop} {ρ : Env} {ro : Nat → Prop} {a : Act} {w : World} (h : Holds mine ρ ro s a w) : Holds mine ρ ro s' a w := by
 obtain ⟨h1, h2, h3⟩ := k
 refine ⟨⟨?_, fun t v ht => h.ok.slots t v (h3 _ _ _ ht), h2 ▸ h.ok.size, h.ok.defers⟩, h1 ▸ h.fresh, h1 ▸ h.pos⟩
 have S := h.ok.sim
 have lv : ∀ n, live s'.h n → live s.h n := fun n ⟨o, c, k1, k2⟩ => ⟨o, c, h3 _ _ _ k1, k2⟩
 exact ⟨fun n o c hn hc => S.cont n o c hn (h3 _ _ _ hc), fun n m x y b hn hm hne hl hl' => S.dist n m x y b hn hm hne (lv n hl) (lv m hl'), S.new, S.zero, fun n o o' c c' hn k1 k2 => S.lay n o o' c c' hn (h3 _ _ _ k1) (h3 _ _ _ k2)⟩
theorem Wk.holds {B : Nat} {s s' : St} (k : Wk B s s') : ∀ {mine : Nat → Prop} {ρ : Env} {ro : Nat → Prop} {a : Act} {w : World}, Holds mine ρ ro s a w → ∃ ρ' ro', Keep B mine ρ ρ' ro ro' w w ∧ Holds mine ρ' ro' s' a w := by
 induction k with
 | sub k => intro mine ρ ro a w h; exact ⟨ρ, ro, .refl _ _ _ _ _, k.holds h⟩
 | weak k => intro mine ρ ro a w h; obtain ⟨ρ', h1, h2⟩ := k.holds h; exact ⟨ρ', ro, h1, h2⟩
 | frz n sz e k f hn hc => intro mine ρ ro a w h; obtain ⟨ro', h1, h2⟩ := frz_holds (B := B) hn hc h; exact ⟨ρ, ro', h1, h2⟩
 | frzP n ds hn hd hc => intro mine ρ ro a w h; obtain ⟨ro', h1, h2⟩ := frzP_holds (B := B) hn hd hc h; exact ⟨ρ, ro', h1, h2⟩
 | nil n o sz e f hB hc => intro mine ρ ro a w h; obtain ⟨ρ', h1, h2⟩ := nil_holds (sz := sz) (e := e) (f := f) hB hc h; exact ⟨ρ', ro, h1, h2⟩
 | imp n o v v' hc hv => intro mine ρ ro a w h; exact ⟨ρ, ro, .refl _ _ _ _ _, imp_holds (B := B) hc hv h⟩
 | take n hB k => intro mine ρ ro a w h; obtain ⟨h1, h2⟩ := k.holds hB h; exact ⟨_, ro, h1, h2⟩
 | trans _ _ ih1 ih2 =>
   intro mine ρ ro a w h
   obtain ⟨ρ1, ro1, k1, h1⟩ := ih1 h
   obtain ⟨ρ2, ro2, k2, h2⟩ := ih2 h1
   exact ⟨ρ2, ro2, k1.trans k2, h2⟩
theorem drawn_holds {mine : Nat → Prop} {ρ : Env} {ro : Nat → Prop} {h : Heap} {N : Nat} {a : Act} {w : World} (S : StOK mine ρ ro h N a w) : StOK mine ρ ro h N a { w with drawn := w.drawn + 1 } := by
 refine ⟨S.sim.more (Nat.le_refl _) (fun _ _ => rfl), S.slots.grow ⟨fun _ _ h => h, fun _ h => h, fun _ _ => rfl⟩, S.size, S.defers.mono (fun _ h => h) fun _ _ => rfl⟩
def NG (e : Exit) : Prop := ∀ l, e ≠ .goto l
theorem evC_ng' {T : Tab} {Γ : Specs} : ∀ (c : Code) (B : Nat) (Q : Exit → St → Prop) (s : St), evC T Γ B c Q s → evC T Γ B c (fun e s => NG e ∧ Q e s) s := by
 intro c
 induction c with
 | skip => intro B Q s ⟨s0, h1, h2⟩; exact ⟨s0, h1, (fun l h => by cases h), h2⟩
 | label l => intro B Q s ⟨s0, h1, h2⟩; exact ⟨s0, h1, (fun l h => by cases h), h2⟩
 | exit id => intro B Q s ⟨s0, h1, h2⟩; exact ⟨s0, h1, (fun l h => by cases h), h2⟩
 | ret => intro B Q s ⟨s0, h1, h2⟩; exact ⟨s0, h1, (fun l h => by cases h), h2⟩
 | region id ops draw =>
   intro B Q s h
   obtain ⟨s0, h0, dec, ps, s', s'', h1, h2, h3, h4⟩ := h
   exact ⟨s0, h0, dec, ps, s', s'', h1, h2, h3, (fun l h => by cases h), h4⟩
 | seq a b iha ihb =>
   intro B Q s h
   refine evC_mono a _ _ s (iha _ _ _ h) fun e s' h' => ?_
   obtain ⟨h1, h2⟩ := h'
   cases e with
   | normal => exact ihb _ _ _ h2
   | goto l => exact absurd rfl (h1 l)
   | _ => exact ⟨h1, h2⟩
 | cond c a b iha ihb =>
   intro B Q s h
   obtain ⟨s0, h0, h⟩ := h
   refine ⟨s0, h0, ?_⟩
   split at h
   ·rw [All_iff] at h ⊢
    intro p hp
    rcases List.mem_append.1 hp with hp | hp
    ·exact h p (List.mem_append_left _ hp)
    ·have := h _ (List.mem_append_right _ List.mem_cons_self)
     rw [List.mem_singleton.1 hp]
     exact ⟨fun e => iha _ _ _ (this.1 e), fun e => ihb _ _ _ (this.2 e)⟩
   ·exact h.elim
 | block id body ih =>
   intro B Q s h
   refine evC_mono body _ _ s (ih _ _ _ h) fun e s' h' => ?_
   obtain ⟨h1, h2⟩ := h'
   cases e with
   | exit id' =>
     show if id' = id then _ else _
     have h2 : if id' = id then Q .normal s' else Q (.exit id') s' := h2
     split
     ·rename_i he; rw [if_pos he] at h2; exact ⟨(fun l h => by cases h), h2⟩
     ·rename_i he; rw [if_neg he] at h2; exact ⟨h1, h2⟩
   | _ => exact ⟨h1, h2⟩
 | loop c ih =>
   intro B Q s h
   obtain ⟨ι, S, μ, i0, h1, h2⟩ := h
   refine ⟨ι, S, μ, i0, h1, fun i => evC_mono c _ _ _ (ih _ _ _ (h2 i)) fun e s' h' => ?_⟩
   obtain ⟨h3, h4⟩ := h'
   cases e with
   | normal => exact h4
   | _ => exact ⟨h3, h4⟩
 | scope body ih => intro B Q s h; exact ih _ _ _ h
 | rangeFunc g ps assign body iha ihb =>
   intro B Q s h
   obtain ⟨t, gf, sz, k, nx, N, c, b, z, fl, f, p, hs, ι, S, i0, h1, h2, h3, h4, h5⟩ := h
   refine ⟨t, gf, sz, k, nx, N, c, b, z, fl, f, p, hs, ι, S, i0, h1, h2, h3, fun j i hj => evC_mono' _ _ _ _ _ (h4 j i hj) fun e s1 he => ?_, fun i => ⟨(fun l h => by cases h), h5 i⟩⟩
   cases e with
   | normal =>
     refine evC_mono' _ _ _ _ _ he fun e' s' h' => ?_
     cases e' with
     | normal => exact h'
     | ret => obtain ⟨hx, h1, h2, h3⟩ := h'; exact ⟨hx, h1, h2, (fun l h => by cases h), h3⟩
     | _ => exact h'.elim
   | _ => exact he
 | _ => intro B Q s h; exact h.elim
theorem evC_ng {T : Tab} {Γ : Specs} {B : Nat} (c : Code) (Q : Exit → St → Prop) (s : St) (h : evC T Γ B c Q s) : evC T Γ B c (fun e s => NG e ∧ Q e s) s := evC_ng' c B Q s h
theorem VRel.same {ρ : Env} {ro : Nat → Prop} {w w' : World} (hc : ∀ a v, w.cell? a = some v → w'.cell? a = some v) {v : AV} {x : Value} (h : VRel ρ ro w v x) : VRel ρ ro w' v x := by
 refine VRel.rec (motive_1 := fun v x _ => VRel ρ ro w' v x) (motive_2 := fun v x _ => LRel ρ ro w' v x) (motive_3 := fun v x _ => CRel ρ ro w' v x)
  ?_ ?_ ?_ ?_ ?_ ?_ ?_ ?_ ?_ ?_ ?_ ?_ ?_ ?_ ?_ ?_ ?_ ?_ ?_ ?_ ?_ ?_ ?_ ?_ ?_ ?_ h
 ·exact fun k n => .int k n
 ·exact fun b => .bool b
 ·exact fun s => .str s
 ·exact .nilp
 ·exact fun n off b h => .ptr n off b h
 ·exact fun n off b i h => .pe n off b i h
 ·exact fun n sz off b l c i h => .vp n sz off b l c i h
 ·exact fun cs a us h1 h2 h3 _ ih => .rp cs a us h1 h2 (fun j u hj => hc _ _ (h3 j u hj)) ih
 ·intro sz n cap full f a vals hn hm hfull ha hl _ ih
  refine .rs sz n cap full f a vals hn hm hfull (fun h0 => ?_) hl ih
  obtain ⟨ad, e, hr, hs, h3⟩ := ha h0
  exact ⟨ad, e, hr, hs, fun i hi j u hj => hc _ _ (h3 i hi j u hj)⟩
 ·exact fun n x h hv => .vs n x h hv
 ·exact fun m sz lo n cap a0 a l c h hl hn hm ha => .sub m sz lo n cap a0 a l c h hl hn hm ha
 ·exact .nils
 ·exact fun n r h => .mp n r h
 ·exact .nilm
 ·exact fun f cap us _ ih => .fn f cap us ih
 ·exact .nilf
 ·exact fun cs us _ ih => .agg cs us ih
 ·exact fun vs us _ ih => .tup vs us ih
 ·exact fun n b h => .it n b h
 ·exact fun cs v x hc _ ih => .whnT cs v x hc ih
 ·exact fun cs v hc => .whnF cs v hc
 ·exact .nil
 ·exact fun v vs u us _ _ ih it => .cons v vs u us ih it
 ·exact .nil
 ·exact fun v vs u us _ h1 _ ih it => .cons v vs u us ih h1 it
 ·exact fun n f vs xs us hl _ h1 _ ih it => .arr n f vs xs us hl ih h1 it
theorem CRel.same {ρ : Env} {ro : Nat → Prop} {w w' : World} (hc : ∀ a v, w.cell? a = some v → w'.cell? a = some v) : ∀ {vs : List AV} {xs : List Value}, CRel ρ ro w vs xs → CRel ρ ro w' vs xs
 | [], _, h => by cases h; exact .nil
 | v :: vs, _, h => by
   cases h with
   | cons _ _ u us h1 h2 t => exact .cons _ _ u us (VRel.same hc h1) h2 (CRel.same hc t)
   | arr k f _ xs us hl h1 h2 t => exact .arr k _ _ xs us hl (fun i u hu => VRel.same hc (h1 i u hu)) h2 (CRel.same hc t)
def Obj.book : Obj → Bool
 | .loop _ | .deferred _ => true
 | _ => false
theorem put_cell {w : World} {D : Nat} {o o' : Obj} (hD : w.heap[D]? = some o) (hb : Obj.book o = true) (a : Addr) (v : Value) (h : w.cell? a = some v) : (w.putObj D o').cell? a = some v := by
 by_cases e : a.block = D
 ·unfold World.cell? at h
  rw [e, hD] at h
  cases o <;> simp [Obj.book] at hb <;> simp at h
 ·rw [cell_same (World.putObj_heap_other e)]; exact h
theorem put_holds {mine : Nat → Prop} {ρ : Env} {ro : Nat → Prop} {s : St} {a a' : Act} {w : World} {D : Nat} {o o' : Obj} (h : Holds mine ρ ro s a w) (hD : w.heap[D]? = some o) (hb : Obj.book o = true) (ht : a'.tmps = a.tmps) (hd : DefOK mine ro a'.defers (w.putObj D o')) : Holds mine ρ ro s a' (w.putObj D o') := by
 have S := h.ok.sim
 have hc := put_cell (o' := o') hD hb
 refine ⟨⟨⟨fun n p c hn hg => ?_, S.dist, fun b hb' => S.new b (by simpa using hb'), S.zero, S.lay⟩, fun t v hv => ?_, by rw [ht]; exact h.ok.size, hd⟩, h.fresh, h.pos⟩
 ·have h0 := S.cont n p c hn hg
  cases c with
  | cell v =>
    obtain ⟨b, cs, ty, u, h1, h2, h3, h4, h5, h6, h7⟩ := h0
    have hne : b ≠ D := fun e => by subst e; rw [hD] at h2; injection h2 with h2; subst h2; simp [Obj.book] at hb
    exact ⟨b, cs, ty, u, h1, (World.putObj_heap_other hne).trans h2, h3, h4, h5, h6, VRel.same hc h7⟩
  | arr k f =>
    obtain ⟨b, cs, ty, h1, h2, h3, h4, h5⟩ := h0
    have hne : b ≠ D := fun e => by subst e; rw [hD] at h2; injection h2 with h2; subst h2; simp [Obj.book] at hb
    refine ⟨b, cs, ty, h1, (World.putObj_heap_other hne).trans h2, h3, h4, fun i hi => ?_⟩
    obtain ⟨u, a1, a2, a3⟩ := h5 i hi
    exact ⟨u, a1, a2, VRel.same hc a3⟩
  | vec sz e k f =>
    obtain ⟨ho, x, xs, h1, h2, h3, h4, h5⟩ := h0
    refine ⟨ho, x, xs, h1, h2, ⟨h3.1, ?_⟩, h4, fun i hi => CRel.same hc (h5 i hi)⟩
    rcases h3.2 with hn' | ⟨gg, cap, cur, rfl, hbase, ⟨fz, hgg, hfz⟩, rest⟩
    ·exact .inl hn'
    ·have hne : gg ≠ D := fun e => by subst e; rw [hD] at hgg; injection hgg with hgg; subst hgg; simp [Obj.book] at hb
     exact .inr ⟨gg, cap, cur, rfl, hbase, ⟨fz, (World.putObj_heap_other hne).trans hgg, hfz⟩, rest⟩
  | map ar es =>
    obtain ⟨ho, r, ms, clock, h1, h2, h3, h4, h5, h6⟩ := h0
    have hne : r ≠ D := fun e => by subst e; rw [hD] at h2; injection h2 with h2; subst h2; simp [Obj.book] at hb
    exact ⟨ho, r, ms, clock, h1, (World.putObj_heap_other hne).trans h2, h3, h4, h5, fun i hi e he => ⟨(h6 i hi e he).key, VRel.same hc (h6 i hi e he).val⟩⟩
  | maps ar es bs ck =>
    obtain ⟨ho, r, ms, h1, h2, h3, h4, h5, h6⟩ := h0
    have hne : r ≠ D := fun e => by subst e; rw [hD] at h2; injection h2 with h2; subst h2; simp [Obj.book] at hb
    exact ⟨ho, r, ms, h1, (World.putObj_heap_other hne).trans h2, h3, h4, h5, fun i hi e he => ⟨(h6 i hi e he).key, VRel.same hc (h6 i hi e he).val⟩⟩
  | iter m since seen c0 k v =>
    obtain ⟨ho, b, r, h1, h2, h3, h4, h5⟩ := h0
    have hne : b ≠ D := fun e => by subst e; rw [hD] at h2; injection h2 with h2; subst h2; simp [Obj.book] at hb
    exact ⟨ho, b, r, h1, (World.putObj_heap_other hne).trans h2, h3, h4, h5⟩
  | top =>
    obtain ⟨b, cs, ty, h1, h2, h3, h4, h5⟩ := h0
    have hne : b ≠ D := fun e => by subst e; rw [hD] at h2; injection h2 with h2; subst h2; simp [Obj.book] at hb
    exact ⟨b, cs, ty, h1, (World.putObj_heap_other hne).trans h2, h3, h4, h5⟩
  | dead => trivial
 ·obtain ⟨u, h1, h2⟩ := h.ok.slots t v hv
  exact ⟨u, by rw [ht]; exact h1, VRel.same hc h2⟩
theorem grown_holds {mine : Nat → Prop} {ρ : Env} {ro : Nat → Prop} {s : St} {a : Act} {w w' : World} (h : Holds mine ρ ro s a w) (g : w.grownBy w' none) : Holds mine ρ ro s a w' := by
 have hb : ∀ b, b < w.heap.size → w'.heap[b]? = w.heap[b]? := fun b hb => g.block b hb (by simp)
 have gr : Grow ρ ρ ro ro w w' := ⟨fun _ _ h => h, fun _ h => h, fun b hr => hb b (h.ok.sim.ro_lt hr)⟩
 exact ⟨⟨h.ok.sim.more g.size hb, h.ok.slots.grow gr, h.ok.size, h.ok.defers.mono (fun _ h => h) gr.heap⟩, h.fresh, h.pos⟩
theorem grown_keep {B : Nat} {mine : Nat → Prop} {ρ : Env} {ro : Nat → Prop} {s : St} {a : Act} {w w' : World} (h : Holds mine ρ ro s a w) (g : w.grownBy w' none) : Keep B mine ρ ρ ro ro w w' := by
 have hb : ∀ b, b < w.heap.size → w'.heap[b]? = w.heap[b]? := fun b hb => g.block b hb (by simp)
 exact ⟨fun _ _ _ h => h, fun _ h => h, fun _ h => .inl h, fun b hr => hb b (h.ok.sim.ro_lt hr), ⟨g.os, g.tape, g.output, g.size, fun b hlt _ => hb b hlt⟩⟩
theorem more_holds {mine : Nat → Prop} {ρ : Env} {ro ro' : Nat → Prop} {s : St} {a : Act} {w : World} (h : Holds mine ρ ro s a w) (hm : ∀ b, ro b → ro' b) (hn : ∀ b, ro' b → ro b ∨ (b < w.heap.size ∧ ∀ o, w.heap[b]? = some o → Obj.book o = true)) : Holds mine ρ ro' s a w := by
 have S := h.ok.sim
 have g : Grow ρ ρ ro ro' w w := ⟨fun _ _ h => h, hm, fun _ _ => rfl⟩
 have bk : ∀ b, (∃ cs ty, w.heap[b]? = some (.cells cs ty (0, 0))) ∨ (∃ o, w.heap[b]? = some o ∧ Obj.book o = false) → ¬ ro b → ¬ ro' b := by
  rintro b hob hnr hr'
  rcases hn b hr' with hr | ⟨_, hr⟩
  ·exact hnr hr
  ·rcases hob with ⟨cs, ty, e⟩ | ⟨o, e, e2⟩
   ·have := hr _ e; simp [Obj.book] at this
   ·have := hr _ e; rw [e2] at this; cases this
 refine ⟨⟨⟨fun n p c hn' hg => ?_, S.dist, fun b hb => ⟨(S.new b hb).1, fun hr => ?_⟩, S.zero, S.lay⟩, h.ok.slots.grow g, h.ok.size, h.ok.defers.mono hm fun _ _ => rfl⟩, h.fresh, h.pos⟩
 ·have h0 := S.cont n p c hn' hg
  by_cases hl : c.live
  ·refine h0.frame g fun x b hx hbk => ⟨rfl, ?_⟩
   have hlt := h0.lt hl hx hbk
   refine bk b ?_ hlt.2.2
   cases c with
   | cell v => obtain ⟨b', cs, ty, u, h1, h2, _⟩ := h0; rw [hx] at h1; injection h1 with h1; subst h1; simp [blk] at hbk; subst hbk; exact .inl ⟨_, _, h2⟩
   | arr k f => obtain ⟨b', cs, ty, h1, h2, _⟩ := h0; rw [hx] at h1; injection h1 with h1; subst h1; simp [blk] at hbk; subst hbk; exact .inl ⟨_, _, h2⟩
   | vec sz e k f =>
     obtain ⟨_, x', xs, h1, _, h3, _⟩ := h0
     rw [hx] at h1; injection h1 with h1; subst h1
     rcases h3.2 with ⟨rfl, _⟩ | ⟨gg, cap, cur, rfl, hbase, ⟨fz, hgg, _⟩, _⟩
     ·simp [blk] at hbk
     ·simp [blk] at hbk; subst hbk; exact .inr ⟨_, hgg, rfl⟩
   | map ar es => obtain ⟨_, r, ms, clock, h1, h2, _⟩ := h0; rw [hx] at h1; injection h1 with h1; subst h1; simp [blk] at hbk; subst hbk; exact .inr ⟨_, h2, rfl⟩
   | maps ar es bs ck => obtain ⟨_, r, ms, h1, h2, _⟩ := h0; rw [hx] at h1; injection h1 with h1; subst h1; simp [blk] at hbk; subst hbk; exact .inr ⟨_, h2, rfl⟩
   | iter m since seen c0 k v => obtain ⟨_, b', r, h1, h2, _⟩ := h0; rw [hx] at h1; injection h1 with h1; subst h1; simp [blk] at hbk; subst hbk; exact .inr ⟨_, h2, rfl⟩
   | top => obtain ⟨b', cs, ty, h1, h2, _⟩ := h0; rw [hx] at h1; injection h1 with h1; subst h1; simp [blk] at hbk; subst hbk; exact .inl ⟨_, _, h2⟩
   | dead => exact hl.elim
  ·cases c <;> simp [Cont.live] at hl
   trivial
 ·rcases hn b hr with hr | ⟨hlt, _⟩
  ·exact (S.new b hb).2 hr
  ·omega
theorem stepR_scope {P : Program} {b : Frame} {a : Act} {k : List Item} {cs : List Frame} {w : World} {c : Code} : step P (lone (b.atR a (.code (.scope c) :: k)) cs w) = .next (lone (b.atR a (.code c :: .inScope c :: k)) cs w) :=
 step_lone_go (by simp [stepG, stepG.exec, Frame.atR])
theorem stepR_inScope {P : Program} {b : Frame} {a : Act} {k : List Item} {cs : List Frame} {w : World} {c : Code} : step P (lone (b.atR a (.inScope c :: k)) cs w) = .next (lone (b.atR a k) cs w) :=
 step_lone_go (by simp [stepG, stepG.exec, Frame.atR])
theorem wpIn_scope_straight {F : Fence} {n : Nat} {P : Program} {Q : Exit → Act → World → Prop} {a : Act} {w : World} {c : Code} (h : c.wpIn F n P (Exit.noGoto Q) a w) : (Code.scope c).wpIn F n P Q a w := by
 intro b k cs hro hb hr
 have h0 : (lone (b.atR a (.code (.scope c) :: k)) cs w).fenced P F := fenced_calm hb hr rfl
 obtain ⟨e, a₁, w₁, hq, harr⟩ := h b (.inScope c :: k) cs hro hb hr
 cases e with
 | normal => exact ⟨.normal, a₁, w₁, hq, .head h0 stepR_scope (StepsIn.trans harr (.one (fenced_calm hb hr rfl) stepR_inScope))⟩
 | exit id =>
   have hx : exitTo id (.inScope c :: k) = exitTo id k := by simp [exitTo]
   exact ⟨.exit id, a₁, w₁, hq, fun k' hk => .head h0 stepR_scope (harr.1 k' (by rw [hx]; exact hk)), fun hr' hk => let ⟨k₁, h1, h2⟩ := harr.2 hr' (by rw [hx]; exact hk); ⟨k₁, h1, .head h0 stepR_scope h2⟩⟩
 | goto l => exact hq.elim
 | ret => exact ⟨_, a₁, w₁, hq, .of_steps (.one h0 stepR_scope) harr⟩
 | panic ch => exact ⟨_, a₁, w₁, hq, .of_steps (.one h0 stepR_scope) harr⟩
 | outgrown => exact ⟨_, a₁, w₁, hq, .of_steps (.one h0 stepR_scope) harr⟩
def codeOK : Bool → Code → Bool
 | _, .region _ ops _ => noDefers ops
 | o, .seq a b => codeOK o a && codeOK o b
 | o, .cond _ a b => codeOK o a && codeOK o b
 | o, .block _ c => codeOK o c
 | o, .loop c => codeOK o c
 | o, .scope c => codeOK o c
 | o, .rangeFunc _ _ a b => o && (codeOK false a && codeOK false b)
 | _, _ => true
theorem hget_slots {h2 : Heap} (hn : noS h2 = true) (t : Nat) : ∀ (h1 : Heap), hget (h1 ++ h2) 0 t = hget h1 0 t
 | [] => by
   induction h2 with
   | nil => rfl
   | cons x h ih =>
     obtain ⟨n, o, c⟩ := x
     simp only [noS, Bool.and_eq_true, Bool.not_eq_true', beq_eq_false_iff_ne] at hn
     have := ih hn.2
     simp only [List.nil_append] at this ⊢
     rw [hget_cons, if_neg (fun e => hn.1 e.1)]
     exact this
 | (n, o, c) :: h1 => by
   rw [List.cons_append, hget_cons, hget_cons, hget_slots hn t h1]
theorem hget_names {n : Nat} (hn : 0 < n) (o : Nat) (h2 : Heap) : ∀ {h1 : Heap}, onlyS h1 = true → hget (h1 ++ h2) n o = hget h2 n o
 | [], _ => rfl
 | (m, o', c) :: h1, h => by
   simp only [onlyS, Bool.and_eq_true, beq_iff_eq] at h
   rw [List.cons_append, hget_cons, if_neg (fun e => by omega), hget_names hn o h2 h.2]
theorem mix_holds {mine : Nat → Prop} {ρ ρ' : Env} {ro ro' : Nat → Prop} {hs h h' : Heap} {nx N : Nat} {a a' : Act} {w w' : World} (H : Holds mine ρ ro ⟨hs ++ h, nx, N⟩ a w) (H' : Holds mine ρ' ro' ⟨h', nx, N⟩ a' w') (ho : onlyS hs = true) (h1 : noS h = true) (h2 : noS h' = true) (k : Keep nx mine ρ ρ' ro ro' w w') (hd : DefOK mine ro' a.defers w') : Holds mine ρ' ro' ⟨hs ++ h', nx, N⟩ a w' := by
 have S := H'.ok.sim
 have g : Grow ρ ρ' ro ro' w w' := ⟨fun n v hv => k.env n v (by
  rcases Nat.lt_or_ge n nx with hlt | hge
  ·exact hlt
  ·rw [H.fresh n hge] at hv; cases hv) hv, k.more, k.heap⟩
 have e : ∀ n o, 0 < n → hget (hs ++ h') n o = hget h' n o := fun n o hn => hget_names hn o h' ho
 refine ⟨⟨⟨fun n o c hn hg => S.cont n o c hn (by rw [← e n o hn]; exact hg), fun n m x y b hn hm hne hl hl' => S.dist n m x y b hn hm hne ?_ ?_, S.new, S.zero, fun n o o' c c' hn k1 k2 => S.lay n o o' c c' hn (by rw [← e n o hn]; exact k1) (by rw [← e n o' hn]; exact k2)⟩, fun t v ht => ?_, H.ok.size, hd⟩, H'.fresh, H'.pos⟩
 ·obtain ⟨o, c, k1, k2⟩ := hl; exact ⟨o, c, by rw [← e n o hn]; exact k1, k2⟩
 ·obtain ⟨o, c, k1, k2⟩ := hl'; exact ⟨o, c, by rw [← e m o hm]; exact k1, k2⟩
 ·have ht : hget (hs ++ h') 0 t = some (.cell v) := ht
  rw [hget_slots h2] at ht
  obtain ⟨u, k1, k2⟩ := H.ok.slots t v (by show hget (hs ++ h) 0 t = _; rw [hget_slots h1]; exact ht)
  exact ⟨u, k1, VRel.grow g k2⟩
theorem Keep.put {B : Nat} {mine : Nat → Prop} {ρ ρ' : Env} {ro ro' : Nat → Prop} {w w1 : World} (k : Keep B mine ρ ρ' ro ro' w w1) {L : Nat} (hL : w.heap.size ≤ L) (hro : ∀ b, ro b → b < w.heap.size) (o : Obj) : Keep B mine ρ ρ' ro ro' w (w1.putObj L o) := by
 refine ⟨k.env, k.more, k.own, fun b hb => (World.putObj_heap_other ?_).trans (k.heap b hb), ⟨k.step.os, k.step.tape, k.step.output, by rw [World.putObj_size]; exact k.step.size, fun b hb hm => (World.putObj_heap_other ?_).trans (k.step.block b hb hm)⟩⟩
 ·have := hro b hb; omega
 ·omega
theorem Keep.less {B B' : Nat} (hB : B ≤ B') {mine : Nat → Prop} {ρ ρ' : Env} {ro ro' : Nat → Prop} {w w' : World} (k : Keep B' mine ρ ρ' ro ro' w w') : Keep B mine ρ ρ' ro ro' w w' :=
 ⟨fun n v hn hv => k.env n v (by omega) hv, k.more, k.own, k.heap, k.step⟩
theorem DefOK.put {mine ro : Nat → Prop} {ds : List Deferred} {w : World} (h : DefOK mine ro ds w) {L : Nat} {r : Loop} (hl : w.heap[L]? = some (.loop r)) (o : Obj) : DefOK mine ro ds (w.putObj L o) :=
 ⟨h.nd, fun d hd => by
   obtain ⟨D, h1, h2, h3, h4⟩ := h.all d hd
   exact ⟨D, h1, h2, h3, (World.putObj_heap_other (fun e => by subst e; rw [hl] at h4; cases h4)).trans h4⟩⟩
theorem ints_inv {ρ : Env} {ro : Nat → Prop} {w : World} : ∀ {xs : List Int} {us : List Value}, CRel ρ ro w (xs.map (AV.int .i64)) us → us = xs.map (Value.int .i64)
 | [], us, h => by cases h; rfl
 | x :: xs, us, h => by
   cases h with
   | cons _ _ u us' h1 h2 t => rw [h1.int_inv, ints_inv t]; rfl
theorem add_zero' (a : Addr) : a.add 0 = a := by simp [Addr.add]
theorem evC_sound {P : Program} (hm : P.follows .mixedOrders = true) {T : Tab} (hT : TabOK P T) {Γ : Specs} (hΓ : SpecsOK P Γ) {mine : Nat → Prop} : ∀ (c : Code) (B : Nat) (Q : Exit → St → Prop) (s : St) (ρ : Env) (ro : Nat → Prop) (a : Act) (w : World) (K : Exit → Act → World → Prop) (r : Option Nat) (m : Nat), codeOK r.isNone c = true →
 evC T Γ B c Q s → Holds mine ρ ro s a w → (∀ e s' ρ' ro' a' w', Q e s' → Keep B mine ρ ρ' ro ro' w w' → Holds mine ρ' ro' s' a' w' → K e a' w') → c.wpIn (fenceR r) m P K a w := by
 intro c
 induction c with
 | skip => intro B Q s ρ ro a w K r m hok ⟨s0, k, h⟩ H hK; obtain ⟨ρ', ro', k1, H1⟩ := k.holds H; exact wpIn_skip (hK _ _ _ _ _ _ h k1 H1)
 | label l => intro B Q s ρ ro a w K r m hok ⟨s0, k, h⟩ H hK; obtain ⟨ρ', ro', k1, H1⟩ := k.holds H; exact wpIn_label (hK _ _ _ _ _ _ h k1 H1)
 | exit id => intro B Q s ρ ro a w K r m hok ⟨s0, k, h⟩ H hK; obtain ⟨ρ', ro', k1, H1⟩ := k.holds H; exact wpIn_exit (hK _ _ _ _ _ _ h k1 H1)
 | ret => intro B Q s ρ ro a w K r m hok ⟨s0, k, h⟩ H hK; obtain ⟨ρ', ro', k1, H1⟩ := k.holds H; exact wpIn_ret (hK _ _ _ _ _ _ h k1 H1)
 | scope body ih =>
   intro B Q s ρ ro a w K r m hok h H hK
   refine wpIn_scope_straight (ih _ _ s ρ ro a w _ r m hok (evC_ng body Q s h) H fun e s' ρ' ro' a' w' hq hk hH => ?_)
   cases e with
   | goto l => exact absurd rfl (hq.1 l)
   | _ => exact hK _ _ _ _ _ _ hq.2 hk hH
 | region id ops draw =>
   intro B Q s ρ ro a w K r m hok h H hK
   obtain ⟨s0, k0, dec, ps, s', s2, e, hs, hw, hq'⟩ := h
   obtain ⟨ρ0, ro0, k1, H0⟩ := k0.holds H
   unfold evRegion at e
   obtain ⟨q, h1, h2⟩ := Option.map_eq_some_iff.1 e
   injection h2 with h2 h3
   subst h3
   have hs1 : ∀ p ∈ q.1, p := fun p hp => hs p (h2 ▸ List.mem_append_left _ hp)
   cases draw with
   | false =>
     refine wpIn_region_list (evOps_sound hT hΓ H0.pos _ 0 ρ0 ro0 s0.h q.2.2 a w q.1 q.2.1 h1 hs1 H0.ok (fun n hn => H0.fresh n (by omega)) (fun ρ' ro' a' w' g st S' hf => ?_) (fun o ho => by obtain ⟨i, hi⟩ := List.mem_iff_getElem?.1 ho; rw [Array.getElem?_toList] at hi; exact noDefers_get hok hi) r m)
     obtain ⟨ρ2, ro2, k2, H2⟩ := hw.holds (⟨S', fun n hn => hf n (by simpa using hn), by have := H0.pos; show 0 < s0.nx + 32 * ops.size; omega⟩ : Holds mine ρ' ro' ⟨q.2.2, s0.nx + 32 * ops.size, s0.N⟩ a' w')
     exact hK _ _ _ _ _ _ hq' ((k1.trans (Keep.of g st)).trans k2) H2
   | true =>
     have hd : drawOK ops q.2.1 = true := hs _ (h2 ▸ List.mem_append_right _ (by simp))
     have st0 : Step mine w { w with drawn := w.drawn + 1 } := ⟨rfl, rfl, rfl, Nat.le_refl _, fun _ _ _ => rfl⟩
     refine wpIn_region_any hm (evRegion_draw hT hΓ H0.pos h1 hs1 hd (drawn_holds H0.ok) H0.fresh (fun ρ' ro' a' w' g st S' hf => ?_) hok r m)
     obtain ⟨ρ2, ro2, k2, H2⟩ := hw.holds (⟨S', hf, by have := H0.pos; show 0 < s0.nx + 32 * ops.size; omega⟩ : Holds mine ρ' ro' ⟨q.2.2, s0.nx + 32 * ops.size, s0.N⟩ a' w')
     have kk : Keep B mine ρ0 ρ' ro0 ro' w w' := ⟨fun n v _ h => g.g.env n v h, g.g.more, g.own, fun b hb => g.g.heap b hb, st0.trans st⟩
     exact hK _ _ _ _ _ _ hq' ((k1.trans kk).trans k2) H2
 | seq x y ihx ihy =>
   intro B Q s ρ ro a w K r m hok h H hK
   obtain ⟨ok1, ok2⟩ := by simpa [codeOK] using hok
   refine wpIn_seq (ihx _ _ s ρ ro a w _ r m ok1 h H fun e s' ρ' ro' a' w' hq hk H' => ?_)
   cases e with
   | normal =>
     exact ihy _ _ s' ρ' ro' a' w' _ r m ok2 hq H' fun e2 s2 ρ2 ro2 a2 w2 q2 k3 H2 => hK _ _ _ _ _ _ q2 (hk.trans k3) H2
   | _ => exact hK _ _ _ _ _ _ hq hk H'
 | cond c x y ihx ihy =>
   intro B Q s ρ ro a w K r m hok h H hK
   obtain ⟨ok1, ok2⟩ := by simpa [codeOK] using hok
   simp only [evC] at h
   obtain ⟨s0, k0, h⟩ := h
   obtain ⟨ρ0, ro0, k1, H0⟩ := k0.holds H
   split at h
   ·rename_i q e
    rw [All_iff] at h
    have hv := opnd_sound H0.ok.slots (co := []) rfl (hL := s0.h) (fun _ _ => rfl) (fun p hp => h p (List.mem_append_left _ hp)) e
    have hc := VRel.bool_inv hv
    have := h _ (List.mem_append_right _ (List.mem_singleton.2 rfl))
    exact wpIn_cond_split hc (fun ht => ihx _ _ s0 ρ0 ro0 a w K r m ok1 (this.1 ht) H0 fun e2 s2 ρ2 ro2 a2 w2 q2 k3 H2 => hK _ _ _ _ _ _ q2 (k1.trans k3) H2) (fun ht => ihy _ _ s0 ρ0 ro0 a w K r m ok2 (this.2 ht) H0 fun e2 s2 ρ2 ro2 a2 w2 q2 k3 H2 => hK _ _ _ _ _ _ q2 (k1.trans k3) H2)
   ·exact h.elim
 | block id body ih =>
   intro B Q s ρ ro a w K r m hok h H hK
   refine wpIn_block (ih _ _ s ρ ro a w _ r m hok h H fun e s' ρ' ro' a' w' hq hk H' => ?_)
   cases e with
   | exit id' =>
     simp only [Exit.inBlock] at hq ⊢
     split at hq <;> rename_i hid
     ·rw [if_pos hid]; exact hK _ _ _ _ _ _ hq hk H'
     ·rw [if_neg hid]; exact hK _ _ _ _ _ _ hq hk H'
   | _ => exact hK _ _ _ _ _ _ hq hk H'
 | loop c ih =>
   intro B Q s ρ ro a w K r m hok h H hK
   obtain ⟨ι, S, μ, i0, h0, hr⟩ := h
   obtain ⟨ρ0, ro0, k0, H0⟩ := h0.holds H
   have key : ∀ (n : Nat) (i : ι) (ρ1 : Env) (ro1 : Nat → Prop) (a1 : Act) (w1 : World), μ i < n → Keep B mine ρ ρ1 ro ro1 w w1 → Holds mine ρ1 ro1 (S i) a1 w1 → Code.roundsIn (fenceR r) m P c K n a1 w1 := by
    intro n
    induction n with
    | zero => intro i ρ1 ro1 a1 w1 hlt; omega
    | succ n ihn =>
      intro i ρ1 ro1 a1 w1 hlt hk H1
      rw [roundsIn_succ]
      refine ih _ _ (S i) ρ1 ro1 a1 w1 _ r m hok (hr i) H1 fun e s' ρ' ro' a' w' hq hk' H' => ?_
      cases e with
      | normal =>
        obtain ⟨i', h1, h2⟩ := hq
        obtain ⟨ρ2, ro2, k2, H2⟩ := h1.holds H'
        exact ihn i' ρ2 ro2 a' w' (by omega) ((hk.trans hk').trans k2) H2
      | _ => exact hK _ _ _ _ _ _ hq (hk.trans hk') H'
   exact wpIn_loop_rounds (μ i0 + 1) (key _ i0 ρ0 ro0 a w (by omega) k0 H0)
 | rangeFunc g ps assign body iha ihb =>
   intro B Q s ρ ro a w K r m hok h H hK
   obtain ⟨hrn, okA, okB⟩ := by simpa [codeOK] using hok
   obtain ⟨t, gf, sz, k, nx, N, c, b, z, fl, f, p, hs, ι, S, i0, ⟨ht, hps, hp, hB, hso, hno⟩, hw, ⟨hg, hgs, hfi⟩, hround, hdone⟩ := h
   subst hps
   obtain rfl : r = none := by simpa using hrn
   obtain ⟨ρ0, ro0, k0, H0⟩ := hw.holds H
   obtain ⟨_, _, _, hit⟩ := (hT t _ ht).agg
   have hit : IterOK P gf sz := hit
   have ha : VRel ρ0 ro0 w (.fn gf [.rp [.rs sz k fl f]]) (a.eval g) := opnd_sound (h := hs ++ S 0 i0) H0.ok.slots (co := []) rfl (hL := hs) (fun t _ => hget_slots (hno 0 i0) t hs) hgs hg
   have hN : a.tmps.size = N := H0.ok.size
   obtain ⟨a', ad, cap, vals, he, hro', hspot, hcell, hkc, hcm, hadr, hlen, hels⟩ : ∃ (a' : Addr) (ad : Option Addr) (cap : Nat) (vals : Nat → List Value), a.eval g = .func (.func gf) #[] #[.pointer (some a')] ∧ ro0 a'.block ∧ a'.spot = none ∧ w.cell? a' = some (.slice ad k cap) ∧ k ≤ cap ∧ cap ≤ maxLen ∧
    (0 < k → ∃ p, ad = some p ∧ ro0 p.block ∧ p.spot = none ∧ ∀ i, i < k → ∀ j u, (vals i)[j]? = some u → w.cell? (p.add (i * sz + j)) = some u) ∧ (∀ i, i < k → (vals i).length = sz) ∧ ∀ i, i < k → CRel ρ0 ro0 w (f i).cells (vals i) := by
    generalize a.eval g = x at ha
    cases ha with
    | fn _ _ us hL =>
      cases hL with
      | cons _ _ u us' h1 h2 =>
        cases h2
        cases h1 with
        | rp _ a' us2 q1 q2 q3 q4 =>
          cases q4 with
          | cons _ _ u2 us3 q5 q6 q7 =>
            cases q7
            cases q5 with
            | rs _ _ cap _ _ ad vals e1 e2 e3 e4 e5 e6 =>
              refine ⟨a', ad, cap, vals, rfl, q1, q2, ?_, e1, e2, e4, e5, e6⟩
              have := q3 0 _ rfl
              rwa [add_zero'] at this
   have hrolt : ∀ b, ro0 b → b < w.heap.size := fun b hb => H0.ok.sim.ro_lt hb
   refine wpIn_rangeFunc ?_
   intro fn hfn
   obtain ⟨rec, hrec⟩ : ∃ rec : LoopState → Option Code → Loop, rec = fun st pe => { state := st, pending := pe, fn, tmps := a.tmps, params := #[p], assign, body, defers := w.heap.size } := ⟨_, rfl⟩
   obtain ⟨W1, hW1⟩ : ∃ W1, (w.alloc (.deferred (some []))).alloc (.loop (rec .ready none)) = W1 := ⟨_, rfl⟩
   have hL1 : W1.heap[w.heap.size + 1]? = some (.loop (rec .ready none)) := by
    rw [← hW1]; have := World.alloc_heap_new (w.alloc (.deferred (some []))) (.loop (rec .ready none)); rwa [World.size_alloc] at this
   have hgr : w.grownBy W1 none := by
    rw [← hW1]
    have g1 := World.grownBy_alloc w (.deferred (some [])) none
    have g2 := World.grownBy_alloc (w.alloc (.deferred (some []))) (.loop (rec .ready none)) none
    exact ⟨g2.os.trans g1.os, g2.tape.trans g1.tape, g2.output.trans g1.output, Nat.le_trans g1.size g2.size, fun b hb hne => (g2.block b (Nat.lt_of_lt_of_le hb g1.size) hne).trans (g1.block b hb hne)⟩
   have hD1 : W1.heap[w.heap.size]? = some (.deferred (some [])) := by
    rw [← hW1]
    have g2 := World.grownBy_alloc (w.alloc (.deferred (some []))) (.loop (rec .ready none)) none
    exact (g2.block _ (by rw [World.size_alloc]; omega) (by simp)).trans (World.alloc_heap_new w _)
   have hsz1 : W1.heap.size = w.heap.size + 2 := by rw [← hW1, World.size_alloc, World.size_alloc]
   refine ⟨w.heap.size + 1, [{ target := .collected w.heap.size, args := #[] }], W1, { target := .fn (.func gf) #[.pointer (some a')], args := #[.func (.yield (w.heap.size + 1)) #[] #[]] }, W1, gf, #[.func (.yield (w.heap.size + 1)) #[] #[]] ++ #[.pointer (some a')], W1, ?_, ?_, fun _ _ => trivial, ?_, fun h => by simp [fenceR] at h, ?_⟩
   ·rw [← hW1, hrec]; exact run_enterLoop_outer _ _ _ _ _
   ·simp only [resolve, he]
    simp [go_sem]
   ·simp [invoke, go_sem, hit.1]
   refine (callsIn_wide (n := m - 1)).2 ((callsIn_wide (n := 1)).1 ?_)
   -- between two rounds; where a round has said 'no more'
   let D := w.heap.size
   let L := w.heap.size + 1
   let Bk : Env → (Nat → Prop) → Heap → Loop → World → Prop := fun ρ' ro' h rc W => Keep nx mine ρ0 ρ' ro0 ro' w W ∧ Holds mine ρ' ro' ⟨hs ++ h, nx, N⟩ a W ∧ ro' D ∧ ro' L ∧ W.heap[D]? = some (.deferred (some [])) ∧ W.heap[L]? = some (.loop rc)
   have hmD : mine D := (H0.ok.sim.new _ (Nat.le_refl _)).1
   have bkGrow : ∀ {ρ' : Env} {ro' : Nat → Prop} {h : Heap} {rc : Loop} {Wa Wb : World}, Bk ρ' ro' h rc Wa → Wa.grownBy Wb none → Bk ρ' ro' h rc Wb := by
    rintro ρ' ro' h rc Wa Wb ⟨b1, b2, b3, b4, b5, b6⟩ g
    refine ⟨b1.trans (grown_keep b2 g), grown_holds b2 g, b3, b4, ?_, ?_⟩
    ·exact (g.block D (Array.getElem?_eq_some_iff.1 b5).1 (by simp)).trans b5
    ·exact (g.block L (Array.getElem?_eq_some_iff.1 b6).1 (by simp)).trans b6
   refine (hit.2 0 L k cap a' ad vals ro0 (fun j W => ∃ i ρ' ro', Bk ρ' ro' (S j i) (rec .ready none) W) (fun W => ∃ hx ρ' ro', noS hx = true ∧ Q .ret ⟨hs ++ hx, nx, N⟩ ∧ Bk ρ' ro' hx (rec .done (some .ret)) W) W1 (fun b hb => by have := hrolt b hb; omega) hspot hro' ?_ (Nat.le_trans hkc hcm) ?_ (fun i hi => ⟨hlen i hi, by obtain ⟨xs, hxs⟩ := hfi i hi; exact ⟨xs, ints_inv (by rw [← hxs]; exact hels i hi)⟩⟩) ?_ ?_ ?_ ?_).mono ?_
   ·rw [cell_same (hgr.block _ (hrolt _ hro') (by simp))]; exact hcell
   ·intro h0
    obtain ⟨q, e1, e2, e3, e4⟩ := hadr h0
    exact ⟨q, e1, e2, e3, fun i hi j u hj => (cell_same (by rw [add_block]; exact hgr.block _ (hrolt _ e2) (by simp))).trans (e4 i hi j u hj)⟩
   ·rintro j Wa Wb ⟨i, ρ', ro', hb⟩ g; exact ⟨i, ρ', ro', bkGrow hb g⟩
   ·rintro Wa Wb ⟨hx, ρ', ro', h1, h2, hb⟩ g; exact ⟨hx, ρ', ro', h1, h2, bkGrow hb g⟩
   ·-- one round
    rintro j W hj ⟨i, ρ', ro', b1, b2, b3, b4, b5, b6⟩
    have hy := run_yield (P := P) (args := #[.agg (vals j).toArray]) b6 (by rw [hrec]; rfl)
    rw [hrec] at hy
    refine ⟨fn, _, assign, body, hy, roundIn_of_wpIn hfn ?_⟩
    have hg0 : Grow ρ0 ρ' ro0 ro' w W := ⟨fun n v hv => b1.env n v (by
     rcases Nat.lt_or_ge n nx with hlt | hge
     ·exact hlt
     ·rw [H0.fresh n hge] at hv; cases hv) hv, b1.more, b1.heap⟩
    have hst : Holds mine ρ' ro' ⟨(0, p, .cell (.agg (f j).cells)) :: (hs ++ S j i), nx, N⟩ { tmps := ((#[p] : Array Tmp).zip #[Value.agg (vals j).toArray]).foldl (fun tmps (t, a) => tmps.setIfInBounds t a) a.tmps, defers := [] } W := by
     have hv : VRel ρ' ro' W (.agg (f j).cells) (.agg (vals j).toArray) := .agg _ _ (CRel.grow hg0 (hels j hj))
     have hput := b2.ok.slots.put (d := p) (by rw [hN]; exact hp) hv
     exact ⟨⟨b2.ok.sim.slot p _, fun t v ht => by
      obtain ⟨u, h1, h2⟩ := hput t v ht
      exact ⟨u, by simpa [Act.put] using h1, h2⟩, by simpa using hN, DefOK.nil _ _ _⟩, b2.fresh, b2.pos⟩
    refine iha nx _ _ ρ' ro' _ W _ (some L) 0 okA (hround j i hj) hst fun e s1 ρ1 ro1 a1 w1 hq hk1 H1 => ?_
    cases e with
    | normal =>
      have hl1 : w1.heap[L]? = some (.loop (rec .ready none)) := (hk1.heap L b4).trans b6
      refine ⟨_, run_beginRound hl1 (by rw [hrec]), ?_⟩
      have H2 := put_holds (o' := .loop { rec .ready none with state := .busy }) (a' := a1) H1 hl1 rfl rfl (H1.ok.defers.put hl1 _)
      have kk : Keep nx mine ρ0 ρ1 ro0 ro1 w (w1.putObj L (.loop { rec .ready none with state := .busy })) := (b1.trans hk1).put (by omega) hrolt _
      have hlt1 : L < w1.heap.size := (Array.getElem?_eq_some_iff.1 hl1).1
      have hl2 : (w1.putObj L (.loop { rec .ready none with state := .busy })).heap[L]? = some (.loop { rec .ready none with state := .busy }) := World.putObj_heap_same hlt1
      have hd2 : (w1.putObj L (.loop { rec .ready none with state := .busy })).heap[D]? = some (.deferred (some [])) := (World.putObj_heap_other (by show w.heap.size ≠ w.heap.size + 1; omega)).trans ((hk1.heap D b3).trans b5)
      have r1D : ro1 D := hk1.more _ b3
      have r1L : ro1 L := hk1.more _ b4
      refine ihb nx _ _ ρ1 ro1 a1 _ _ (some L) 0 okB hq H2 fun e2 s2 ρ2 ro2 a2 w3 hq2 hk2 H3 => ?_
      have hl3 : w3.heap[L]? = some (.loop { rec .ready none with state := .busy }) := (hk2.heap L r1L).trans hl2
      have hd3 : w3.heap[D]? = some (.deferred (some [])) := (hk2.heap D r1D).trans hd2
      have hlt3 : L < w3.heap.size := (Array.getElem?_eq_some_iff.1 hl3).1
      -- what is left of a round
      have fin : ∀ (hx : Heap) (jump : Option Code), noS hx = true → Wk nx s2 ⟨hx, nx, N⟩ → ∃ ρ3 ro3, Bk ρ3 ro3 hx (rec (if jump.isNone then .ready else .done) jump) (w3.putObj L (.loop { rec .ready none with state := if jump.isNone then .ready else .done, pending := jump })) := by
       intro hx jump hnx hwk
       obtain ⟨ρ3, ro3, k3, H4⟩ := hwk.holds H3
       have kw : Keep nx mine ρ0 ρ3 ro0 ro3 w w3 := (kk.trans hk2).trans k3
       have r3D : ro3 D := k3.more _ (hk2.more _ r1D)
       have r3L : ro3 L := k3.more _ (hk2.more _ r1L)
       have H5 := mix_holds H0 H4 hso (hno 0 i0) hnx kw (H0.ok.defers.mono kw.more kw.heap)
       refine ⟨ρ3, ro3, kw.put (by omega) hrolt _, put_holds H5 hl3 rfl rfl (H5.ok.defers.put hl3 _), r3D, r3L, ?_, ?_⟩
       ·exact (World.putObj_heap_other (by show w.heap.size ≠ w.heap.size + 1; omega)).trans hd3
       ·rw [World.putObj_heap_same hlt3, hrec]
      cases e2 with
      | normal =>
        obtain ⟨i', hwk⟩ := hq2
        obtain ⟨ρ3, ro3, hb⟩ := fin _ none (hno (j + 1) i') hwk
        refine ⟨_, _, run_endRound (P := P) none hl3, .inl ⟨rfl, ⟨i', ρ3, ro3, hb⟩, fun c hc => ?_⟩⟩
        exact (hb.1.heap c hc).trans (b1.heap c hc).symm
      | ret =>
        obtain ⟨hx, h1, hwk, h2⟩ := hq2
        obtain ⟨ρ3, ro3, hb⟩ := fin _ (some .ret) h1 hwk
        exact ⟨_, _, run_endRound (P := P) (some .ret) hl3, .inr ⟨rfl, hx, ρ3, ro3, h1, h2, hb⟩⟩
      | _ => exact hq2.elim
    | _ => exact hq.elim
   ·-- at the start
    have Hg := grown_holds H0 hgr
    let ro1 : Nat → Prop := fun b => ro0 b ∨ b = D ∨ b = L
    have hsame : ∀ b, ro0 b → W1.heap[b]? = w.heap[b]? := fun b hb => hgr.block b (hrolt b hb) (by simp)
    refine ⟨i0, ρ0, ro1, ⟨fun _ _ _ h => h, fun _ h => .inl h, fun b hb => ?_, hsame, ⟨hgr.os, hgr.tape, hgr.output, hgr.size, fun b hb _ => hgr.block b hb (by simp)⟩⟩, more_holds Hg (fun _ h => .inl h) (fun b hb => ?_), .inr (.inl rfl), .inr (.inr rfl), hD1, hL1⟩
    ·rcases hb with hb | hb | hb
     ·exact .inl hb
     ·exact .inr (hb ▸ hmD)
     ·exact .inr (hb ▸ (H0.ok.sim.new _ (by show w.heap.size ≤ w.heap.size + 1; omega)).1)
    ·rcases hb with hb | hb | hb
     ·exact .inl hb
     ·subst hb; exact .inr ⟨by show w.heap.size < _; omega, fun o ho => by rw [hD1] at ho; injection ho with ho; subst ho; rfl⟩
     ·subst hb; exact .inr ⟨by show w.heap.size + 1 < _; omega, fun o ho => by rw [hL1] at ho; injection ho with ho; subst ho; rfl⟩
   ·-- behind the iterator
    have hmark : ∀ {ρ' : Env} {ro' : Nat → Prop} {h : Heap} {rc : Loop} {W : World} (o : Obj), Bk ρ' ro' h rc W → DefOK mine ro' ({ target := .collected D, args := #[] } :: a.defers) (W.putObj L o) := by
     rintro ρ' ro' h rc W o ⟨b1, b2, b3, b4, b5, b6⟩
     have hd := b2.ok.defers.put b6 o
     refine ⟨List.nodup_cons.2 ⟨fun hmem => ?_, hd.nd⟩, fun d hdm => ?_⟩
     ·obtain ⟨d, hd1, hd2⟩ := List.mem_map.1 hmem
      obtain ⟨D', e1, _, _, e4⟩ := H0.ok.defers.all d hd1
      rw [e1] at hd2
      injection hd2 with hd2
      have := (Array.getElem?_eq_some_iff.1 e4).1
      rw [hd2] at this
      exact absurd this (Nat.lt_irrefl _)
     ·rcases List.mem_cons.1 hdm with rfl | hdm
      ·exact ⟨D, rfl, hmD, b3, (World.putObj_heap_other (by show w.heap.size ≠ w.heap.size + 1; omega)).trans b5⟩
      ·exact hd.all d hdm
    rintro e W' ⟨⟨v, rfl⟩, ⟨i, ρ', ro', hb⟩ | ⟨hx, ρ', ro', h1, h2, hb⟩⟩
    ·have hb' := hb
     obtain ⟨b1, b2, b3, b4, b5, b6⟩ := hb'
     refine ⟨none, _, by have := run_endLoop (P := P) b6 (by rw [hrec]; simp); rw [hrec] at this; exact this, ?_⟩
     exact hK _ _ _ _ _ _ (hdone i) (k0.trans ((b1.put (by omega) hrolt _).less hB)) (put_holds b2 b6 rfl rfl (hmark _ hb))
    ·have hb' := hb
     obtain ⟨b1, b2, b3, b4, b5, b6⟩ := hb'
     refine ⟨some .ret, _, by have := run_endLoop (P := P) b6 (by rw [hrec]; simp); rw [hrec] at this; exact this, ?_⟩
     exact wpIn_ret (hK _ _ _ _ _ _ h2 (k0.trans ((b1.put (by omega) hrolt _).less hB)) (put_holds b2 b6 rfl rfl (hmark _ hb)))
 | _ => intro B Q s ρ ro a w K r m hok h; exact h.elim
end Go.Eng