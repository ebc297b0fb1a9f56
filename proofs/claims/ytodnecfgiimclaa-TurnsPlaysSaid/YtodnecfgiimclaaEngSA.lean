/- The engine, part 15b: what a piece of code does, said of all worlds; memory that is left aside. -/
import Derived.Test.YtodnecfgiimclaaEngP
set_option linter.unusedSimpArgs false
set_option linter.unusedVariables false
namespace Go.Eng
def Sem (P : Program) (B : Nat) (c : Code) (Q : Exit → St → Prop) (s : St) : Prop :=
 ∀ (mine : Nat → Prop) (ρ : Env) (ro : Nat → Prop) (a : Act) (w : World) (K : Exit → Act → World → Prop) (m : Nat), Holds mine ρ ro s a w →
   (∀ e s' ρ' ro' a' w', Q e s' → Keep B mine ρ ρ' ro ro' w w' → Holds mine ρ' ro' s' a' w' → K e a' w') → c.wpIn (fenceR none) m P K a w
def Imp (B : Nat) (s s' : St) : Prop :=
 ∀ (mine : Nat → Prop) (ρ : Env) (ro : Nat → Prop) (a : Act) (w : World), Holds mine ρ ro s a w → ∃ ρ' ro', Keep B mine ρ ρ' ro ro' w w ∧ Holds mine ρ' ro' s' a w
theorem Wk.imp' {B : Nat} {s s' : St} (h : Wk B s s') : Imp B s s' := fun mine ρ ro a w H => h.holds H
theorem Imp.trans {B : Nat} {s s' s'' : St} (h : Imp B s s') (k : Imp B s' s'') : Imp B s s'' := fun mine ρ ro a w H => by
 obtain ⟨ρ1, ro1, k1, H1⟩ := h mine ρ ro a w H
 obtain ⟨ρ2, ro2, k2, H2⟩ := k mine ρ1 ro1 a w H1
 exact ⟨ρ2, ro2, k1.trans k2, H2⟩
def SThen (P : Program) (B : Nat) (b : Code) (Q : Exit → St → Prop) : Exit → St → Prop
 | .normal, s => Sem P B b Q s
 | e, s => Q e s
def SRound {ι : Type} (B : Nat) (S : ι → St) (μ : ι → Nat) (n : Nat) (Q : Exit → St → Prop) : Exit → St → Prop
 | .normal, s => ∃ i, Imp B s (S i) ∧ μ i < n
 | e, s => Q e s
section
variable {P : Program} {B : Nat} {Q Q' : Exit → St → Prop} {s s' : St}
theorem Sem.of_evC (hm : P.follows .mixedOrders = true) {T : Tab} (hT : TabOK P T) {Γ : Specs} (hΓ : SpecsOK P Γ) {c : Code} (hok : codeOK true c = true) (h : evC T Γ B c Q s) : Sem P B c Q s :=
 fun _ ρ ro a w K m H hK => evC_sound hm hT hΓ c B Q s ρ ro a w K none m hok h H hK
theorem Sem.mono {c : Code} (h : Sem P B c Q s) (hq : ∀ e s, Q e s → Q' e s) : Sem P B c Q' s := fun mine ρ ro a w K m H hK => h mine ρ ro a w K m H fun e s' ρ' ro' a' w' q => hK e s' ρ' ro' a' w' (hq _ _ q)
theorem Sem.wk {c : Code} (k : Imp B s s') (h : Sem P B c Q s') : Sem P B c Q s := fun mine ρ ro a w K m H hK => by
 obtain ⟨ρ1, ro1, k1, H1⟩ := k mine ρ ro a w H
 exact h mine ρ1 ro1 a w K m H1 fun e s2 ρ2 ro2 a2 w2 q2 k2 H2 => hK _ _ _ _ _ _ q2 (k1.trans k2) H2
theorem Sem.seq {x y : Code} (h : Sem P B x (SThen P B y Q) s) : Sem P B (.seq x y) Q s := fun mine ρ ro a w K m H hK => by
 refine wpIn_seq (h mine ρ ro a w _ m H fun e s' ρ' ro' a' w' hq hk H' => ?_)
 cases e with
 | normal => exact hq mine ρ' ro' a' w' _ m H' fun e2 s2 ρ2 ro2 a2 w2 q2 k3 H2 => hK _ _ _ _ _ _ q2 (hk.trans k3) H2
 | _ => exact hK _ _ _ _ _ _ hq hk H'
theorem Sem.block {id : Nat} {c : Code} (h : Sem P B c (InBlock id Q) s) : Sem P B (.block id c) Q s := fun mine ρ ro a w K m H hK => by
 refine wpIn_block (h mine ρ ro a w _ m H fun e s' ρ' ro' a' w' hq hk H' => ?_)
 cases e with
 | exit id' =>
   simp only [Exit.inBlock, InBlock] at hq ⊢
   split at hq <;> rename_i hid
   ·rw [if_pos hid]; exact hK _ _ _ _ _ _ hq hk H'
   ·rw [if_neg hid]; exact hK _ _ _ _ _ _ hq hk H'
 | _ => exact hK _ _ _ _ _ _ hq hk H'
theorem Sem.cond {c : Operand} {x y : Code} {q : Bool} (e : opnd s.h c = some (.bool q)) (hs : opndS s.h [] c = []) (ht : q = true → Sem P B x Q s) (hf : q = false → Sem P B y Q s) : Sem P B (.cond c x y) Q s := fun mine ρ ro a w K m H hK => by
 have hv := opnd_sound H.ok.slots (co := []) rfl (hL := s.h) (fun _ _ => rfl) (fun p hp => by rw [hs] at hp; cases hp) e
 exact wpIn_cond_split hv.bool_inv (fun h => ht h mine ρ ro a w K m H hK) (fun h => hf h mine ρ ro a w K m H hK)
theorem Sem.loop {c : Code} {ι : Type} (S : ι → St) (μ : ι → Nat) (i0 : ι) (h0 : Imp B s (S i0)) (h : ∀ i, Sem P B c (SRound B S μ (μ i) Q) (S i)) : Sem P B (.loop c) Q s := fun mine ρ ro a w K m H hK => by
 obtain ⟨ρ0, ro0, k0, H0⟩ := h0 mine ρ ro a w H
 have key : ∀ (n : Nat) (i : ι) (ρ1 : Env) (ro1 : Nat → Prop) (a1 : Act) (w1 : World), μ i < n → Keep B mine ρ ρ1 ro ro1 w w1 → Holds mine ρ1 ro1 (S i) a1 w1 → Code.roundsIn (fenceR none) m P c K n a1 w1 := by
  intro n
  induction n with
  | zero => intro i ρ1 ro1 a1 w1 hlt; omega
  | succ n ihn =>
    intro i ρ1 ro1 a1 w1 hlt hk H1
    rw [roundsIn_succ]
    refine h i mine ρ1 ro1 a1 w1 _ m H1 fun e s' ρ' ro' a' w' hq hk' H' => ?_
    cases e with
    | normal =>
      obtain ⟨i', h1, h2⟩ := hq
      obtain ⟨ρ2, ro2, k2, H2⟩ := h1 mine ρ' ro' a' w' H'
      exact ihn i' ρ2 ro2 a' w' (by omega) ((hk.trans hk').trans k2) H2
    | _ => exact hK _ _ _ _ _ _ hq (hk.trans hk') H'
 exact wpIn_loop_rounds (μ i0 + 1) (key _ i0 ρ0 ro0 a w (by omega) k0 H0)
theorem Sem.exit {id : Nat} (h : Q (.exit id) s) : Sem P B (.exit id) Q s := fun _ _ _ _ _ _ _ H hK => wpIn_exit (hK _ _ _ _ _ _ h (.refl _ _ _ _ _) H)
theorem Sem.skip (h : Q .normal s) : Sem P B .skip Q s := fun _ _ _ _ _ _ _ H hK => wpIn_skip (hK _ _ _ _ _ _ h (.refl _ _ _ _ _) H)
theorem Sem.ret (h : Q .ret s) : Sem P B .ret Q s := fun _ _ _ _ _ _ _ H hK => wpIn_ret (hK _ _ _ _ _ _ h (.refl _ _ _ _ _) H)
end
def St.app (s : St) (R : Heap) : St := ⟨s.h ++ R, s.nx, s.N⟩
def SFrame (R : Heap) (Q : Exit → St → Prop) : Exit → St → Prop := fun e s => Q e (s.app R)
section
variable {P : Program} {B : Nat} {Q : Exit → St → Prop} {s : St}
theorem sthen_normal {b : Code} (h : Sem P B b Q s) : SThen P B b Q .normal s := h
theorem sthen_exit {b : Code} {id : Nat} (h : Q (.exit id) s) : SThen P B b Q (.exit id) s := h
theorem sframe_at {R : Heap} {e : Exit} (h : Q e (s.app R)) : SFrame R Q e s := h
theorem sround_normal {ι : Type} {S : ι → St} {μ : ι → Nat} {n : Nat} (i : ι) (hw : Imp B s (S i)) (hl : μ i < n) : SRound B S μ n Q .normal s := ⟨i, hw, hl⟩
theorem sround_exit {ι : Type} {S : ι → St} {μ : ι → Nat} {n id : Nat} (h : Q (.exit id) s) : SRound B S μ n Q (.exit id) s := h
end
inductive Low (B : Nat) : AV → Prop
 | int (k : IntKind) (n : Int) : Low B (.int k n)
 | bool (b : Bool) : Low B (.bool b)
 | str (s : ByteArray) : Low B (.str s)
 | nilp : Low B .nilp
 | nils : Low B .nils
 | nilm : Low B .nilm
 | nilf : Low B .nilf
 | ptr (n off : Nat) (h : n < B) : Low B (.ptr n off)
 | pe (n off : Nat) (i : Int) (h : n < B) : Low B (.pe n off i)
 | vp (n sz : Nat) (i : Int) (off : Nat) (h : n < B) : Low B (.vp n sz i off)
 | vs (n : Nat) (h : n < B) : Low B (.vs n)
 | sub (m sz lo k : Nat) (h : m < B) : Low B (.sub m sz lo k)
 | mp (n : Nat) (h : n < B) : Low B (.mp n)
 | it (n : Nat) (h : n < B) : Low B (.it n)
 | rp (cs : List AV) (t : ∀ v ∈ cs, Low B v) : Low B (.rp cs)
 | rs (sz n : Nat) (full : Bool) (f : Nat → AV) (t : ∀ i, i < n → Low B (f i)) : Low B (.rs sz n full f)
 | fn (f : Nat) (cap : List AV) (t : ∀ v ∈ cap, Low B v) : Low B (.fn f cap)
 | agg (cs : List AV) (t : ∀ v ∈ cs, Low B v) : Low B (.agg cs)
 | arr (n : Nat) (f : Nat → AV) (t : ∀ i, i < n → Low B (f i)) : Low B (.arr n f)
 | tup (vs : List AV) (t : ∀ v ∈ vs, Low B v) : Low B (.tup vs)
 | whn (cs : List Bool) (v : AV) (t : Low B v) : Low B (.whn cs v)
theorem Low.cells {B : Nat} {v : AV} (h : Low B v) : ∀ u ∈ v.cells, Low B u := by
 cases h <;> simp only [AV.cells, List.mem_singleton] <;> try (intro u hu; subst hu)
 case agg cs t => exact t
 all_goals (constructor <;> assumption)
section
variable {ρ ρ' : Env} {ro ro' : Nat → Prop} {w w' : World} {B : Nat} (hρ : ∀ n y, n < B → ρ n = some y → ρ' n = some y) (hro : ∀ b, ro b → ro' b ∧ w'.heap[b]? = w.heap[b]?)
include hρ hro
theorem VRel.low {v : AV} {x : Value} (h : VRel ρ ro w v x) (hh : Low B v) : VRel ρ' ro' w' v x := by
 revert hh
 refine VRel.rec (motive_1 := fun u x _ => Low B u → VRel ρ' ro' w' u x) (motive_2 := fun us xs _ => (∀ v ∈ us, Low B v) → LRel ρ' ro' w' us xs) (motive_3 := fun us xs _ => (∀ v ∈ us, Low B v) → CRel ρ' ro' w' us xs)
  ?_ ?_ ?_ ?_ ?_ ?_ ?_ ?_ ?_ ?_ ?_ ?_ ?_ ?_ ?_ ?_ ?_ ?_ ?_ ?_ ?_ ?_ ?_ ?_ ?_ ?_ h
 ·intro k n _; exact .int _ _
 ·intro b _; exact .bool _
 ·intro s _; exact .str _
 ·intro _; exact .nilp
 ·intro n off b hb hh; cases hh with | ptr _ _ h => exact .ptr _ _ b (hρ _ _ h hb)
 ·intro n off b i hb hh; cases hh with | pe _ _ _ h => exact .pe _ _ b _ (hρ _ _ h hb)
 ·intro n sz off b l c i hb hh; cases hh with | vp _ _ _ _ h => exact .vp _ _ _ b l c _ (hρ _ _ h hb)
 ·intro cs a us h1 h2 h3 _ ih hh
  cases hh with | rp _ t => exact .rp _ a us (hro _ h1).1 h2 (fun j u hj => (cell_same (by rw [add_block]; exact (hro _ h1).2)).trans (h3 j u hj)) (ih t)
 ·intro sz n cap full f a vals h1 h2 h3 h4 h5 _ ih hh
  cases hh with
  | rs _ _ _ _ t =>
    refine .rs _ _ cap _ _ a vals h1 h2 h3 (fun h0 => ?_) h5 fun i hi => ih i hi ((t i hi).cells)
    obtain ⟨ad, e, hr, hs, hc⟩ := h4 h0
    exact ⟨ad, e, (hro _ hr).1, hs, fun i hi j u hj => (cell_same (by rw [add_block]; exact (hro _ hr).2)).trans (hc i hi j u hj)⟩
 ·intro n x hx hv hh; cases hh with | vs _ h => exact .vs _ x (hρ _ _ h hx) hv
 ·intro m sz lo k cap a0 a l c h hl hn hm ha hh; cases hh with | sub _ _ _ _ h0 => exact .sub _ _ _ _ cap a0 a l c (hρ _ _ h0 h) hl hn hm ha
 ·intro _; exact .nils
 ·intro n r hr hh; cases hh with | mp _ h => exact .mp _ r (hρ _ _ h hr)
 ·intro _; exact .nilm
 ·intro f cap us _ ih hh; cases hh with | fn _ _ t => exact .fn _ _ us (ih t)
 ·intro _; exact .nilf
 ·intro cs us _ ih hh; cases hh with | agg _ t => exact .agg _ us (ih t)
 ·intro vs us _ ih hh; cases hh with | tup _ t => exact .tup _ us (ih t)
 ·intro n b hb hh; cases hh with | it _ h => exact .it _ b (hρ _ _ h hb)
 ·intro cs v x hc _ ih hh; cases hh with | whn _ _ t => exact .whnT _ _ x hc (ih t)
 ·intro cs v hc hh; exact .whnF _ _ hc
 ·intro _; exact .nil
 ·intro v vs u us _ _ ih it hh; exact .cons _ _ u us (ih (hh _ (by simp))) (it fun v hv => hh v (List.mem_cons_of_mem _ hv))
 ·intro _; exact .nil
 ·intro v vs u us _ h1 _ ih it hh; exact .cons _ _ u us (ih (hh _ (by simp))) h1 (it fun v hv => hh v (List.mem_cons_of_mem _ hv))
 ·intro n f vs xs us hl _ h1 _ ih it hh
  refine .arr _ _ _ xs us hl (fun i u hu => ih i u hu ?_) h1 (it fun v hv => hh v (List.mem_cons_of_mem _ hv))
  have h0 := hh (.arr n f) (by simp)
  have hi : i < n := by rw [← hl]; exact (List.getElem?_eq_some_iff.1 hu).1
  cases h0 with | arr _ _ t => exact t i hi
theorem CRel.low {vs : List AV} {xs : List Value} (h : CRel ρ ro w vs xs) (hh : ∀ v ∈ vs, Low B v) : CRel ρ' ro' w' vs xs := by
 have h1 := VRel.low hρ hro (VRel.agg vs xs h) (.agg _ hh)
 have h2 : ∀ y, VRel ρ' ro' w' (.agg vs) y → y = .agg xs.toArray → CRel ρ' ro' w' vs xs := by
  intro y hy e
  cases hy with
  | agg _ us' hq => injection e with e; have e2 := congrArg Array.toList e; simp at e2; exact e2 ▸ hq
 exact h2 _ h1 rfl
end
def ContLow (B : Nat) : Cont → Prop
 | .cell v => Low B v
 | .arr k f => ∀ i, i < k → Low B (f i)
 | .vec _ _ k f => ∀ i, i < k → Low B (f i)
 | .map _ es => ∀ e ∈ es, Low B e.2
 | .maps _ es _ _ => ∀ e ∈ es, Low B e.2
 | .iter m _ _ _ _ _ => m < B
 | .top => True
 | .dead => True
theorem CSim.low {mine mine' : Nat → Prop} {ρ ρ' : Env} {ro ro' : Nat → Prop} {w w' : World} {B : Nat} (hρ : ∀ n y, n < B → ρ n = some y → ρ' n = some y) (hro : ∀ b, ro b → ro' b ∧ w'.heap[b]? = w.heap[b]?) {n o : Nat} {c : Cont} (h : CSim mine ρ ro w n o c) (hn : n < B) (hc : ContLow B c)
 (hb : ∀ x b, ρ n = some x → blk x = some b → w'.heap[b]? = w.heap[b]? ∧ mine' b ∧ ¬ ro' b) : CSim mine' ρ' ro' w' n o c := by
 cases c with
 | cell v =>
   obtain ⟨b, cs, ty, u, h1, h2, h3, h4, h5, h6, h7⟩ := h
   have := hb _ b h1 rfl
   exact ⟨b, cs, ty, u, hρ _ _ hn h1, this.1.trans h2, this.2.1, this.2.2, h5, h6, VRel.low hρ hro h7 hc⟩
 | arr k f =>
   obtain ⟨b, cs, ty, h1, h2, h3, h4, h5⟩ := h
   have := hb _ b h1 rfl
   refine ⟨b, cs, ty, hρ _ _ hn h1, this.1.trans h2, this.2.1, this.2.2, fun i hi => ?_⟩
   obtain ⟨u, a1, a2, a3⟩ := h5 i hi
   exact ⟨u, a1, a2, VRel.low hρ hro a3 (hc i hi)⟩
 | vec sz e k f =>
   obtain ⟨ho, x, xs, h1, h2, h3, h4, h5⟩ := h
   refine ⟨ho, x, xs, hρ _ _ hn h1, fun b e => (hb x b h1 e).2, h3.keep fun b e => (hb x b h1 e).1, h4, fun i hi => CRel.low hρ hro (h5 i hi) (hc i hi).cells⟩
 | map ar es =>
   obtain ⟨ho, r, ms, clock, h1, h2, h3, h4, h5, h6⟩ := h
   have := hb _ r h1 rfl
   exact ⟨ho, r, ms, clock, hρ _ _ hn h1, this.1.trans h2, this.2.1, this.2.2, h5, fun i hi e he => ⟨(h6 i hi e he).key, VRel.low hρ hro (h6 i hi e he).val (hc e (List.mem_iff_getElem?.2 ⟨i, he⟩))⟩⟩
 | maps ar es bs ck =>
   obtain ⟨ho, r, ms, h1, h2, h3, h4, h5, h6⟩ := h
   have := hb _ r h1 rfl
   exact ⟨ho, r, ms, hρ _ _ hn h1, this.1.trans h2, this.2.1, this.2.2, h5, fun i hi e he => ⟨(h6 i hi e he).key, VRel.low hρ hro (h6 i hi e he).val (hc e (List.mem_iff_getElem?.2 ⟨i, he⟩))⟩⟩
 | iter m since seen c0 k v =>
   obtain ⟨ho, b, r, h1, h2, h3, h4, h5⟩ := h
   have := hb _ b h1 rfl
   exact ⟨ho, b, r, hρ _ _ hn h1, this.1.trans h2, this.2.1, this.2.2, hρ _ _ hc h5⟩
 | top =>
   obtain ⟨b, cs, ty, h1, h2, h3, h4, h5⟩ := h
   have := hb _ b h1 rfl
   exact ⟨b, cs, ty, hρ _ _ hn h1, this.1.trans h2, this.2.1, this.2.2, h5⟩
 | dead => trivial
theorem CSim.noblk {mine : Nat → Prop} {ρ : Env} {ro : Nat → Prop} {w : World} {n o : Nat} {c : Cont} (h : CSim mine ρ ro w n o c) (hl : c.live) {x : Value} (hx : ρ n = some x) (hb : blk x = none) : o = 0 := by
 cases c with
 | cell v => obtain ⟨b, cs, ty, u, h1, _⟩ := h; rw [hx] at h1; injection h1 with h1; subst h1; simp [blk] at hb
 | arr k f => obtain ⟨b, cs, ty, h1, _⟩ := h; rw [hx] at h1; injection h1 with h1; subst h1; simp [blk] at hb
 | vec sz e k f => exact h.1
 | map ar es => exact h.1
 | maps ar es bs ck => exact h.1
 | iter m since seen c0 k v => exact h.1
 | top => obtain ⟨b, cs, ty, h1, _⟩ := h; rw [hx] at h1; injection h1 with h1; subst h1; simp [blk] at hb
 | dead => exact hl.elim
theorem app_left : ∀ {h R : Heap} {n o : Nat} {c : Cont}, hget h n o = some c → hget (h ++ R) n o = some c
 | [], _, _, _, _, e => by cases e
 | (n', o', c') :: h, R, n, o, c, e => by
   rw [List.cons_append, hget_cons]
   rw [hget_cons] at e
   split at e
   ·rename_i he; rw [if_pos he]; exact e
   ·rename_i he; rw [if_neg he]; exact app_left e
theorem app_right : ∀ {h R : Heap} {n o : Nat}, (∀ x ∈ h, x.1 ≠ n) → hget (h ++ R) n o = hget R n o
 | [], _, _, _, _ => rfl
 | (n', o', c') :: h, R, n, o, hne => by
   rw [List.cons_append, hget_cons, if_neg (fun e => hne _ List.mem_cons_self e.1)]
   exact app_right fun x hx => hne x (List.mem_cons_of_mem _ hx)
theorem app_or : ∀ {h R : Heap} {n o : Nat} {c : Cont}, hget (h ++ R) n o = some c → hget h n o = some c ∨ hget R n o = some c
 | [], _, _, _, _, e => .inr e
 | (n', o', c') :: h, R, n, o, c, e => by
   rw [List.cons_append, hget_cons] at e
   rw [hget_cons]
   split at e
   ·rename_i he; rw [if_pos he]; exact .inl e
   ·rename_i he; rw [if_neg he]; exact app_or e
theorem hget_in : ∀ {h : Heap} {n o : Nat} {c : Cont}, hget h n o = some c → (n, o, c) ∈ h
 | [], _, _, _, e => by cases e
 | (n', o', c') :: h, n, o, c, e => by
   rw [hget_cons] at e
   split at e
   ·rename_i he; obtain ⟨rfl, rfl⟩ := he; injection e with e; subst e; exact List.mem_cons_self
   ·exact List.mem_cons_of_mem _ (hget_in e)
theorem Sem.frame {P : Program} {B B' : Nat} {R : Heap} {c : Code} {Q : Exit → St → Prop} {s : St} (hB : B ≤ B') (hR : ∀ x ∈ R, 0 < x.1 ∧ x.1 < B' ∧ ContLow B' x.2.2) (hd : ∀ x ∈ s.h, ∀ y ∈ R, x.1 ≠ y.1)
 (h : Sem P B' c (SFrame R Q) s) : Sem P B c Q (s.app R) := by
 intro mine ρ ro a w K m H hK
 have S := H.ok.sim
 have rl : ∀ n o c, hget R n o = some c → hget (s.h ++ R) n o = some c := fun n o c e => by
  rw [app_right fun x hx => hd x hx _ (hget_in e)]; exact e
 have rlv : ∀ n, live R n → 0 < n ∧ n < B' ∧ live (s.h ++ R) n := by
  rintro n ⟨o, c, e, l⟩
  exact ⟨(hR _ (hget_in e)).1, (hR _ (hget_in e)).2.1, o, c, rl n o c e, l⟩
 obtain ⟨own, hown⟩ : ∃ own : Nat → Prop, own = fun b => ∃ n x, live R n ∧ ρ n = some x ∧ blk x = some b := ⟨_, rfl⟩
 have ownD : ∀ b, own b ↔ ∃ n x, live R n ∧ ρ n = some x ∧ blk x = some b := fun b => by rw [hown]
 have ownLt : ∀ b, own b → b < w.heap.size ∧ mine b ∧ ¬ ro b := fun b hb => by
  obtain ⟨n, x, l, hx, hbk⟩ := (ownD b).1 hb
  obtain ⟨h0, _, o, c, e, l2⟩ := rlv n l
  exact (S.cont n o c h0 e).lt l2 hx hbk
 let mine' : Nat → Prop := fun b => mine b ∧ ¬ own b
 have H' : Holds mine' ρ ro s a w := by
  have lv : ∀ n, live s.h n → live (s.h ++ R) n := fun n ⟨o, c, e, l⟩ => ⟨o, c, app_left e, l⟩
  refine ⟨⟨⟨fun n o c hn hc => ?_, fun n m x y b hn hm hne hl hl' => S.dist n m x y b hn hm hne (lv n hl) (lv m hl'), fun b hb => ⟨⟨(S.new b hb).1, fun ho => ?_⟩, (S.new b hb).2⟩, S.zero, fun n o o' c c' hn k1 k2 => S.lay n o o' c c' hn (app_left k1) (app_left k2)⟩, fun t v ht => H.ok.slots t v (app_left ht), H.ok.size, ⟨H.ok.defers.nd, fun d hd => ?_⟩⟩, H.fresh, H.pos⟩
  ·have h0 := S.cont n o c hn (app_left hc)
   by_cases hl : c.live
   ·refine h0.chg (fun _ h => h) fun x b hx hbk => ?_
    have := h0.lt hl hx hbk
    refine ⟨⟨this.2.1, fun ho => ?_⟩, this.2.2⟩
    obtain ⟨n', y, l, hy, hby⟩ := (ownD b).1 ho
    obtain ⟨q1, _, q2⟩ := rlv n' l
    obtain ⟨o', c', e', l'⟩ := l
    exact S.dist n n' x y b hn q1 (hd _ (hget_in hc) _ (hget_in e')) ⟨o, c, app_left hc, hl⟩ q2 hx hy hbk hby
   ·cases c <;> simp [Cont.live] at hl
    trivial
  ·have := (ownLt b ho).1; omega
  ·obtain ⟨D, h1, h2, h3, h4⟩ := H.ok.defers.all d hd
   exact ⟨D, h1, ⟨h2, fun ho => (ownLt D ho).2.2 h3⟩, h3, h4⟩
 refine h mine' ρ ro a w K m H' fun e s' ρ' ro' a' w' hq hk H1 => hK e _ ρ' ro' a' w' hq ⟨fun n v hn hv => hk.env n v (by omega) hv, hk.more, fun b hb => (hk.own b hb).imp id fun q => q.1, hk.heap, ⟨hk.step.os, hk.step.tape, hk.step.output, hk.step.size, fun b hb hm => hk.step.block b hb fun q => hm q.1⟩⟩ ?_
 have S1 := H1.ok.sim
 have ownNot : ∀ b, own b → ¬ mine' b := fun b ho hm => hm.2 ho
 have ownRo : ∀ b, own b → ¬ ro' b := fun b ho hr => (hk.own b hr).elim (ownLt b ho).2.2 (ownNot b ho)
 have nm : ∀ n, live R n → ∃ x, ρ n = some x ∧ ρ' n = some x := fun n l => by
  obtain ⟨h0, h1, o, c, e, l2⟩ := rlv n l
  have hc := S.cont n o c h0 e
  obtain ⟨x, hx⟩ : ∃ x, ρ n = some x := by
   cases c with
   | cell v => obtain ⟨b, cs, ty, u, h1, _⟩ := hc; exact ⟨_, h1⟩
   | arr k f => obtain ⟨b, cs, ty, h1, _⟩ := hc; exact ⟨_, h1⟩
   | vec sz e k f => obtain ⟨_, x, xs, h1, _⟩ := hc; exact ⟨_, h1⟩
   | map ar es => obtain ⟨_, r, ms, clock, h1, _⟩ := hc; exact ⟨_, h1⟩
   | maps ar es bs ck => obtain ⟨_, r, ms, h1, _⟩ := hc; exact ⟨_, h1⟩
   | iter m since seen c0 k v => obtain ⟨_, b, r, h1, _⟩ := hc; exact ⟨_, h1⟩
   | top => obtain ⟨b, cs, ty, h1, _⟩ := hc; exact ⟨_, h1⟩
   | dead => exact l2.elim
  exact ⟨x, hx, hk.env n x h1 hx⟩
 have rc : ∀ n o c, hget R n o = some c → CSim mine ρ' ro' w' n o c := fun n o c e => by
  obtain ⟨h0, h1, h2⟩ := hR _ (hget_in e)
  by_cases hl : c.live
  ·refine (S.cont n o c h0 (rl n o c e)).low (fun n y hn hy => hk.env n y hn hy) (fun b hb => ⟨hk.more b hb, hk.heap b hb⟩) h1 h2 fun x b hx hbk => ?_
   have ho : own b := (ownD b).2 ⟨n, x, ⟨o, c, e, hl⟩, hx, hbk⟩
   exact ⟨hk.step.block b (ownLt b ho).1 (ownNot b ho), (ownLt b ho).2.1, ownRo b ho⟩
  ·cases c <;> simp [Cont.live] at hl
   trivial
 have lvs : ∀ n, live (s'.h ++ R) n → live s'.h n ∨ live R n := fun n ⟨o, c, e, l⟩ => (app_or e).imp (fun e => ⟨o, c, e, l⟩) fun e => ⟨o, c, e, l⟩
 have mineOf : ∀ n x b, 0 < n → live s'.h n → ρ' n = some x → blk x = some b → mine' b := fun n x b hn ⟨o, c, e, l⟩ hx hbk => ((S1.cont n o c hn e).lt l hx hbk).2.1
 have ownOf : ∀ n x b, live R n → ρ' n = some x → blk x = some b → own b := fun n x b l hx hbk => by
  obtain ⟨y, h1, h2⟩ := nm n l
  rw [hx] at h2; injection h2 with h2
  exact (ownD b).2 ⟨n, y, l, h1, h2 ▸ hbk⟩
 have mix : ∀ n o c o' c', 0 < n → hget s'.h n o = some c → c.live → hget R n o' = some c' → c'.live → o = 0 ∧ o' = 0 := by
  intro n o c o' c' hn e l e' l'
  obtain ⟨x, h1, h2⟩ := nm n ⟨o', c', e', l'⟩
  cases hbk : blk x with
  | some b => exact absurd (mineOf n x b hn ⟨o, c, e, l⟩ h2 hbk) (ownNot b (ownOf n x b ⟨o', c', e', l'⟩ h2 hbk))
  | none => exact ⟨(S1.cont n o c hn e).noblk l h2 hbk, (rc n o' c' e').noblk l' h2 hbk⟩
 refine ⟨⟨⟨fun n o c hn hc => ?_, fun n m x y b hn hm hne hl hl' hx hy hbx hby => ?_, fun b hb => ⟨(S1.new b hb).1.1, (S1.new b hb).2⟩, S1.zero, fun n o o' c c' hn k1 k2 l1 l2 hlt => ?_⟩, fun t v ht => ?_, H1.ok.size, ⟨H1.ok.defers.nd, fun d hd => ?_⟩⟩, H1.fresh, H1.pos⟩
 ·rcases app_or hc with hc | hc
  ·have h0 := S1.cont n o c hn hc
   by_cases hl : c.live
   ·exact h0.chg (fun _ h => h) fun x b hx hbk => ⟨(h0.lt hl hx hbk).2.1.1, (h0.lt hl hx hbk).2.2⟩
   ·cases c <;> simp [Cont.live] at hl
    trivial
  ·exact rc n o c hc
 ·rcases lvs n hl with l1 | l1 <;> rcases lvs m hl' with l2 | l2
  ·exact S1.dist n m x y b hn hm hne l1 l2 hx hy hbx hby
  ·exact ownNot b (ownOf m y b l2 hy hby) (mineOf n x b hn l1 hx hbx)
  ·exact ownNot b (ownOf n x b l1 hx hbx) (mineOf m y b hm l2 hy hby)
  ·obtain ⟨x0, p1, p2⟩ := nm n l1
   obtain ⟨y0, q1, q2⟩ := nm m l2
   rw [hx] at p2; injection p2 with p2; subst p2
   rw [hy] at q2; injection q2 with q2; subst q2
   exact S.dist n m x y b hn hm hne (rlv n l1).2.2 (rlv m l2).2.2 p1 q1 hbx hby
 ·rcases app_or k1 with e1 | e1 <;> rcases app_or k2 with e2 | e2
  ·exact S1.lay n o o' c c' hn e1 e2 l1 l2 hlt
  ·have := mix n o c o' c' hn e1 l1 e2 l2; omega
  ·have := mix n o' c' o c hn e2 l2 e1 l1; omega
  ·exact S.lay n o o' c c' hn (rl n o c e1) (rl n o' c' e2) l1 l2 hlt
 ·rcases app_or ht with ht | ht
  ·exact H1.ok.slots t v ht
  ·exact absurd (hR _ (hget_in ht)).1 (Nat.lt_irrefl 0)
 ·obtain ⟨D, h1, h2, h3, h4⟩ := H1.ok.defers.all d hd
  exact ⟨D, h1, h2.1, h3, h4⟩
theorem Sem.stamps {P : Program} {B : Nat} {c : Code} {Q : Exit → St → Prop} {s : St} {m ar : Nat} {es : List (List Int × AV)} (hm : 0 < m) (hc : hget s.h m 0 = some (.map ar es))
 (h : ∀ (bs : List Nat) (ck : Nat), bs.length = es.length → bs.Nodup → (∀ b ∈ bs, b < ck) → (∀ e ∈ es, e.1.length = ar) → Sem P B c Q ⟨(m, 0, .maps ar es bs ck) :: s.h, s.nx, s.N⟩) : Sem P B c Q s := by
 intro mine ρ ro a w K mm H hK
 have S := H.ok.sim
 obtain ⟨_, r, ms, ck, h1, h2, h3, h4, ⟨h5, h6⟩, h7⟩ := S.cont m 0 _ hm hc
 have get : ∀ n o c', hget ((m, 0, Cont.maps ar es (ms.toList.map (·.born)) ck) :: s.h) n o = some c' → (n = m ∧ o = 0 ∧ c' = .maps ar es (ms.toList.map (·.born)) ck) ∨ hget s.h n o = some c' := by
  intro n o c' e
  rw [hget_cons] at e
  split at e
  ·rename_i he; obtain ⟨rfl, rfl⟩ := he; injection e with e; exact .inl ⟨rfl, rfl, e.symm⟩
  ·exact .inr e
 have lv : ∀ n o c', hget ((m, 0, Cont.maps ar es (ms.toList.map (·.born)) ck) :: s.h) n o = some c' → c'.live → ∃ c2, hget s.h n o = some c2 ∧ c2.live ∧ c2.wd = c'.wd := by
  intro n o c' e l
  rcases get n o c' e with ⟨rfl, rfl, rfl⟩ | e2
  ·exact ⟨_, hc, trivial, rfl⟩
  ·exact ⟨c', e2, l, rfl⟩
 refine h (ms.toList.map (·.born)) ck (by simpa using h5) (List.nodup_iff_pairwise_ne.2 (h6.1.imp fun hab => Nat.ne_of_lt hab)) (fun b hb => ?_) (fun e he => ?_) mine ρ ro a w K mm ⟨⟨⟨fun n o c' hn hg => ?_, fun n k x y b hn hk hne hl hl' => S.dist n k x y b hn hk hne ?_ ?_, S.new, S.zero, fun n o o' c1 c2 hn k1 k2 l1 l2 hlt => ?_⟩, fun t v ht => ?_, H.ok.size, H.ok.defers⟩, H.fresh, H.pos⟩ hK
 ·obtain ⟨x, hx, rfl⟩ := List.mem_map.1 hb
  exact h6.2 x hx
 ·obtain ⟨i, hi⟩ := List.mem_iff_getElem?.1 he
  exact (h7 i (by rw [h5]; exact (List.getElem?_eq_some_iff.1 hi).1) e hi).key.1
 ·rcases get n o c' hg with ⟨rfl, rfl, rfl⟩ | e2
  ·exact ⟨rfl, r, ms, h1, h2, h3, h4, ⟨h5, h6, rfl⟩, h7⟩
  ·exact S.cont n o c' hn e2
 ·obtain ⟨o, c', e, l⟩ := hl
  obtain ⟨c2, e2, l2, _⟩ := lv n o c' e l
  exact ⟨o, c2, e2, l2⟩
 ·obtain ⟨o, c', e, l⟩ := hl'
  obtain ⟨c2, e2, l2, _⟩ := lv k o c' e l
  exact ⟨o, c2, e2, l2⟩
 ·obtain ⟨d1, e1, m1, w1⟩ := lv n o c1 k1 l1
  obtain ⟨d2, e2, m2, _⟩ := lv n o' c2 k2 l2
  rw [← w1]
  exact S.lay n o o' d1 d2 hn e1 e2 m1 m2 hlt
 ·rcases get 0 t _ ht with ⟨e, _⟩ | e
  ·omega
  ·exact H.ok.slots t v e
theorem Imp.unstamp {B : Nat} {s : St} {m ar ck : Nat} {es : List (List Int × AV)} {bs : List Nat} (hm : 0 < m) (hc : hget s.h m 0 = some (.maps ar es bs ck)) : Imp B s ⟨(m, 0, .map ar es) :: s.h, s.nx, s.N⟩ := by
 intro mine ρ ro a w H
 have S := H.ok.sim
 obtain ⟨_, r, ms, h1, h2, h3, h4, ⟨h5, h6, _⟩, h7⟩ := S.cont m 0 _ hm hc
 have get : ∀ n o c', hget ((m, 0, Cont.map ar es) :: s.h) n o = some c' → (n = m ∧ o = 0 ∧ c' = .map ar es) ∨ hget s.h n o = some c' := by
  intro n o c' e
  rw [hget_cons] at e
  split at e
  ·rename_i he; obtain ⟨rfl, rfl⟩ := he; injection e with e; exact .inl ⟨rfl, rfl, e.symm⟩
  ·exact .inr e
 have lv : ∀ n o c', hget ((m, 0, Cont.map ar es) :: s.h) n o = some c' → c'.live → ∃ c2, hget s.h n o = some c2 ∧ c2.live ∧ c2.wd = c'.wd := by
  intro n o c' e l
  rcases get n o c' e with ⟨rfl, rfl, rfl⟩ | e2
  ·exact ⟨_, hc, trivial, rfl⟩
  ·exact ⟨c', e2, l, rfl⟩
 refine ⟨ρ, ro, .refl _ _ _ _ _, ⟨⟨⟨fun n o c' hn hg => ?_, fun n k x y b hn hk hne hl hl' => S.dist n k x y b hn hk hne ?_ ?_, S.new, S.zero, fun n o o' c1 c2 hn k1 k2 l1 l2 hlt => ?_⟩, fun t v ht => ?_, H.ok.size, H.ok.defers⟩, H.fresh, H.pos⟩⟩
 ·rcases get n o c' hg with ⟨rfl, rfl, rfl⟩ | e2
  ·exact ⟨rfl, r, ms, ck, h1, h2, h3, h4, ⟨h5, h6⟩, h7⟩
  ·exact S.cont n o c' hn e2
 ·obtain ⟨o, c', e, l⟩ := hl
  obtain ⟨c2, e2, l2, _⟩ := lv n o c' e l
  exact ⟨o, c2, e2, l2⟩
 ·obtain ⟨o, c', e, l⟩ := hl'
  obtain ⟨c2, e2, l2, _⟩ := lv k o c' e l
  exact ⟨o, c2, e2, l2⟩
 ·obtain ⟨d1, e1, m1, w1⟩ := lv n o c1 k1 l1
  obtain ⟨d2, e2, m2, _⟩ := lv n o' c2 k2 l2
  rw [← w1]
  exact S.lay n o o' d1 d2 hn e1 e2 m1 m2 hlt
 ·rcases get 0 t _ ht with ⟨e, _⟩ | e
  ·omega
  ·exact H.ok.slots t v e
theorem Sem.next {P : Program} {B : Nat} {Q : Exit → St → Prop} {s : St} {id d1 d2 it n m since c0 ar ck : Nat} {seen bs : List Nat} {es : List (List Int × AV)} {k0 v0 : AV} {op1 op2 : Oper} (kv : List Int → AV) (hkv : ∀ ks, ks.length = ar → keyOf (kv ks) = some ks)
 (h1 : op1.op = .next (.tmp it) false) (g1 : op1.guard = none) (e1 : op1.dst = some d1) (h2 : op2.op = .extract (.tmp d1) 0) (g2 : op2.guard = none) (e2 : op2.dst = some d2) (hd1 : d1 < s.N) (hd2 : d2 < s.N)
 (hit : hget s.h 0 it = some (.cell (.it n))) (hi : hget s.h n 0 = some (.iter m since seen c0 k0 v0)) (hm : hget s.h m 0 = some (.maps ar es bs ck)) (hold : ∀ b ∈ bs, b < since) (hsc : since ≤ c0)
 (done : (∀ b ∈ bs, b ∈ seen) → Q .normal ⟨(0, d2, .cell (.bool false)) :: (0, d1, .cell (.tup [.bool false])) :: s.h, s.nx, s.N⟩)
 (more : ∀ (j : Nat) (ks : List Int) (v : AV) (b : Nat), es[j]? = some (ks, v) → bs[j]? = some b → b ∉ seen → keyOf (kv ks) = some ks → Q .normal ⟨(0, d2, .cell (.bool true)) :: (0, d1, .cell (.tup [.bool true, kv ks, v])) :: (n, 0, .iter m since (seen ++ [b]) ck (kv ks) v) :: s.h, s.nx, s.N⟩) :
 Sem P B (.region id #[op1, op2] false) Q s := by
 intro mine ρ ro a w K mm H hK
 have S := H.ok.sim
 obtain ⟨u, hu1, hu2⟩ := H.ok.slots it _ hit
 cases hu2 with
 | it _ b hb =>
 have hnp := name_pos S hb
 obtain ⟨_, b', r, q1, q2, q3, q4, q5⟩ := S.cont n 0 _ hnp hi
 rw [hb] at q1; injection q1 with q1; injection q1 with q1; injection q1 with q1; injection q1 with q1; subst q1
 obtain ⟨_, r', ms, p1, p2, _, _, p5, p6⟩ := S.cont m 0 _ (name_pos S q5) hm
 rw [q5] at p1; injection p1 with p1; injection p1 with p1; injection p1 with p1; subst p1
 have hev : a.eval (.tmp it) = .pointer (some ⟨b, 0, none⟩) := by simp [Act.eval, hu1]
 have two : ∀ (v : AV) (x y : Value) (w1 : World), (execOp a.eval op1).run P w = .ok (.value x) w1 → (∀ a1 : Act, a1.eval (.tmp d1) = x → (execOp a1.eval op2).run P w1 = .ok (.value y) w1) → K .normal ((a.put (some d1) x).put (some d2) y) w1 → (Code.region id #[op1, op2] false).wpIn (fenceR none) mm P K a w := by
  intro v x y w1 hr1 hr2 hk
  refine wpIn_region_list ?_
  show wpListIn (fenceR none) mm P #[op1, op2] K [op1, op2] a w
  refine wpListIn_plain g1 fun K1 hK1 => oper_in (fun c hc => by rw [h1] at hc; cases hc) (wp_value hr1 (hK1 _ _ ?_))
  refine wpListIn_plain g2 fun K2 hK2 => oper_in (fun c hc => by rw [h2] at hc; cases hc) (wp_value (hr2 _ ?_) (hK2 _ _ (wpListIn_nil ?_)))
  ·rw [e1]
   have : d1 < a.tmps.size := by rw [H.ok.size]; exact hd1
   simp [Act.eval, Act.put, this]
  ·rw [e1, e2]; exact hk
 have hold' : ∀ x ∈ ms.toList, x.born < since := fun x hx => hold _ (by rw [← p5.2.2]; exact List.mem_map.2 ⟨x, hx, rfl⟩)
 rcases run_next_at (P := P) w op1.type b r since c0 seen.toArray ms ck q2 p2 hold' hsc with ⟨hsz, hrun⟩ | ⟨e, he, w1, hw1, hrun⟩
 ·refine two .nilp (.tuple #[.bool false]) (.bool false) w (by simp [execOp, h1, hev, hrun]) (fun a1 ha1 => by simp [execOp, h2, ha1, Instr.extract]) ?_
  refine hK _ _ ρ ro _ _ (done fun b1 hb1 => ?_) (.refl _ _ _ _ _) ?_
  ·rw [← p5.2.2] at hb1
   obtain ⟨x, hx, rfl⟩ := List.mem_map.1 hb1
   have := all_seen ms seen.toArray hsz x hx
   simpa using this
  ·have k1 := H.ok.dst (d := some d1) (v := .tup [.bool false]) (x := .tuple #[.bool false]) (by simpa [dstOK, Nat.blt_eq] using hd1) (.tup _ [.bool false] (.cons _ _ _ _ (.bool _) .nil))
   have k2 := k1.dst (d := some d2) (v := .bool false) (x := .bool false) (by simpa [dstOK, Nat.blt_eq] using hd2) (.bool _)
   exact ⟨k2, H.fresh, H.pos⟩
 ·have hme := mem_left he
  obtain ⟨j, hj, hje⟩ := List.mem_iff_getElem.1 hme.1
  have hjs : j < ms.size := by simpa using hj
  have hjm : ms[j] = e := by rw [← hje]; simp
  obtain ⟨en, hen⟩ : ∃ en, es[j]? = some en := ⟨es[j]'(by rw [← p5.1]; exact hjs), by simp⟩
  obtain ⟨ks, v⟩ := en
  have hE := p6 j hjs _ hen
  rw [hjm] at hE
  have hkl : ks.length = ar := hE.key.1
  have hkey : e.key = keyVal .i64 ks := hE.key.2
  have hbj : bs[j]? = some e.born := by rw [← p5.2.2, List.getElem?_map, List.getElem?_eq_getElem hj, hje]; rfl
  have hns : e.born ∉ seen := fun h => by
   have := hme.2
   simp [h] at this
  -- the world behind the step
  have H1 : Holds mine ρ ro s a w1 := by
   rcases hw1 with rfl | rfl
   ·exact H
   ·exact ⟨drawn_holds H.ok, H.fresh, H.pos⟩
  have hst1 : Step mine w w1 := by
   rcases hw1 with rfl | rfl
   ·exact .refl _ _
   ·exact ⟨rfl, rfl, rfl, Nat.le_refl _, fun _ _ _ => rfl⟩
  have hh1 : w1.heap = w.heap := by rcases hw1 with rfl | rfl <;> rfl
  have S1 := H1.ok.sim
  have hln : live s.h n := ⟨0, _, hi, trivial⟩
  have hb1 : b < w1.heap.size := by rw [hh1]; exact (Array.getElem?_eq_some_iff.1 q2).1
  obtain ⟨W, hW⟩ : ∃ W, W = Go.ChangeMaps.setBlock w1 b (.mapIter (some r) since (seen.toArray.push e.born) ck) := ⟨_, rfl⟩
  have hWb : W.heap[b]? = some (.mapIter (some r) since (seen.toArray.push e.born) ck) := by rw [hW]; simp [Go.ChangeMaps.setBlock, hb1]
  have hWo : ∀ b1, b1 ≠ b → W.heap[b1]? = w1.heap[b1]? := fun b1 hne => by rw [hW]; simp only [Go.ChangeMaps.setBlock]; rw [Array.getElem?_setIfInBounds_ne (Ne.symm hne)]
  have hsole : ∀ o c, hget s.h n o = some c → c.live → o = 0 := fun o c hc hl => by
   have h0 := S1.cont n o c hnp hc
   cases c with
   | cell v => obtain ⟨b2, cs, ty, u, y1, y2, _⟩ := h0; rw [hb] at y1; injection y1 with y1; injection y1 with y1; injection y1 with y1; injection y1 with y1; subst y1; rw [hh1, q2] at y2; cases y2
   | arr k f => obtain ⟨b2, cs, ty, y1, y2, _⟩ := h0; rw [hb] at y1; injection y1 with y1; injection y1 with y1; injection y1 with y1; injection y1 with y1; subst y1; rw [hh1, q2] at y2; cases y2
   | vec sz e k f => exact h0.1
   | map ar es => exact h0.1
   | maps ar es bs ck => exact h0.1
   | iter m since seen c0 k v => exact h0.1
   | top => obtain ⟨b2, cs, ty, y1, y2, _⟩ := h0; rw [hb] at y1; injection y1 with y1; injection y1 with y1; injection y1 with y1; injection y1 with y1; subst y1; rw [hh1, q2] at y2; cases y2
   | dead => exact hl.elim
  have hin : ∀ o c, hget ((n, 0, Cont.iter m since (seen ++ [e.born]) ck (kv ks) v) :: s.h) n o = some c → c.live → o = 0 := fun o c hc hl => by
   rcases hget_put n 0 _ s.h hc with ⟨rfl, _⟩ | ⟨_, hc1⟩
   ·rfl
   ·exact hsole o c hc1 hl
  obtain ⟨S2, G2, st2⟩ := S1.write (h' := (n, 0, .iter m since (seen ++ [e.born]) ck (kv ks) v) :: s.h) (w' := W) hnp hb rfl hln (by rw [hW]; rfl) (by rw [hW]; rfl) (by rw [hW]; rfl) (by rw [hW]; simp [Go.ChangeMaps.setBlock]) hWo (fun m' o _ hne => hget_ne n 0 _ s.h hne)
   (fun gr o c hc => by
     rcases hget_put n 0 _ s.h hc with ⟨rfl, rfl⟩ | ⟨hne, hc1⟩
     ·exact ⟨rfl, b, r, hb, by rw [hWb]; simp, q3, q4, q5⟩
     ·by_cases hl : c.live
      ·exact absurd (hsole o c hc1 hl) hne
      ·cases c <;> simp [Cont.live] at hl
       trivial)
   (fun o o' c c' k1 k2 l1 l2 hlt => by
     have a1 := hin o c k1 l1
     have a2 := hin o' c' k2 l2
     omega)
  have hval : VRel ρ ro W v e.val := by
   have g0 : Grow ρ ρ ro ro w w1 := ⟨fun _ _ h => h, fun _ h => h, fun b _ => by rw [hh1]⟩
   exact (hE.val.grow g0).grow G2
  have hvk : VRel ρ ro W (kv ks) e.key := by rw [hkey]; exact keyOf_conv (hkv ks hkl)
  refine two .nilp (.tuple #[.bool true, e.key, e.val]) (.bool true) W (by rw [hW]; simp [execOp, h1, hev, hrun]) (fun a1 ha1 => by simp [execOp, h2, ha1, Instr.extract]) ?_
  have hok : StOK mine ρ ro ((n, 0, .iter m since (seen ++ [e.born]) ck (kv ks) v) :: s.h) s.N a W := by
   refine ⟨S2, fun t v' ht => ?_, H1.ok.size, H1.ok.defers.mono (fun _ h => h) G2.heap⟩
   rw [hget_cons, if_neg (fun q => by have := q.1; omega)] at ht
   exact (H1.ok.slots.grow G2) t v' ht
  refine hK _ _ ρ ro _ _ (more j ks v e.born hen hbj hns (hkv ks hkl)) ⟨fun _ _ _ h => h, fun _ h => h, fun _ h => .inl h, fun b1 hb1 => (G2.heap b1 hb1).trans (by rw [hh1]), hst1.trans st2⟩ ?_
  have k1 := hok.dst (d := some d1) (v := .tup [.bool true, kv ks, v]) (x := .tuple #[.bool true, e.key, e.val]) (by simpa [dstOK, Nat.blt_eq] using hd1) (.tup _ [.bool true, e.key, e.val] (.cons _ _ _ _ (.bool _) (.cons _ _ _ _ hvk (.cons _ _ _ _ hval .nil))))
  have k2 := k1.dst (d := some d2) (v := .bool true) (x := .bool true) (by simpa [dstOK, Nat.blt_eq] using hd2) (.bool _)
  exact ⟨k2, H1.fresh, H1.pos⟩
end Go.Eng