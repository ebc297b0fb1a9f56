/- The engine, part 6: each operation is as 'evOp' says. -/
import Derived.Test.YtodnecfgiimclaaEngE
set_option linter.unusedSimpArgs false
set_option linter.unusedVariables false
namespace Go.Eng
section
variable {P : Program} {mine : Nat → Prop} {ρ : Env} {ro : Nat → Prop} {h : Heap} {w : World}
theorem wp_value {o : Oper} {a : Act} {x : Value} {w' : World} {K : Act → World → Prop} {Q : Exit → Act → World → Prop} (e : (execOp a.eval o).run P w = .ok (.value x) w') (hK : K (a.put o.dst x) w') : o.wp P a w K Q := by
 unfold Oper.wp; rw [e]; exact hK
theorem wp_skip' {o : Oper} {a : Act} {w' : World} {K : Act → World → Prop} {Q : Exit → Act → World → Prop} (e : (execOp a.eval o).run P w = .ok .skip w') (hK : K (a.put o.dst undef) w') : o.wp P a w K Q := by
 unfold Oper.wp; rw [e]; exact hK
theorem fresh_dead (S : Sim mine ρ ro h w) {n o : Nat} {c : Cont} (hn : 0 < n) (hf : ρ n = none) (e : hget h n o = some c) : ¬ c.live := by
 intro hl
 have h0 := S.cont n o c hn e
 cases c with
 | cell v => obtain ⟨b, cs, ty, u, h1, _⟩ := h0; rw [hf] at h1; cases h1
 | arr k f => obtain ⟨b, cs, ty, h1, _⟩ := h0; rw [hf] at h1; cases h1
 | vec sz e k f => obtain ⟨_, x, xs, h1, _⟩ := h0; rw [hf] at h1; cases h1
 | map ar es => obtain ⟨_, r, ms, cl, h1, _⟩ := h0; rw [hf] at h1; cases h1
 | maps ar es bs ck => obtain ⟨_, r, ms, h1, _⟩ := h0; rw [hf] at h1; cases h1
 | iter m since seen c0 k v => obtain ⟨_, b, r, h1, _⟩ := h0; rw [hf] at h1; cases h1
 | top => obtain ⟨b, cs, ty, h1, _⟩ := h0; rw [hf] at h1; cases h1
 | dead => exact hl.elim
def bind1 (ρ : Env) (n : Nat) (x : Value) : Env := fun m => if m = n then some x else ρ m
theorem bind1_names {ρ : Env} {nb : Nat} {x : Value} {k : Nat} (hk : k < 32) : ∀ n, bind1 ρ (nb + k) x n ≠ ρ n → nb ≤ n ∧ n < nb + 32 := by
 intro n hn
 unfold bind1 at hn
 split at hn
 ·omega
 ·exact absurd rfl hn
theorem new_block (S : Sim mine ρ ro h w) {nb : Nat} (hnb : 0 < nb) (hf : ρ nb = none) {cs : List AV} {us : List Value} (hc : CRel ρ ro w cs us) (ty : Nat) :
 Sim mine (bind1 ρ nb (.pointer (some ⟨w.heap.size, 0, none⟩))) ro (hput h (spread nb 0 cs ++ [(nb, widthC cs, .top)])) (w.alloc (.cells us.toArray ty)) ∧
 Grow ρ (bind1 ρ nb (.pointer (some ⟨w.heap.size, 0, none⟩))) ro ro w (w.alloc (.cells us.toArray ty)) ∧ Step mine w (w.alloc (.cells us.toArray ty)) := by
 have snoc : ∀ (u : List (Nat × Nat × Cont)) (h : Heap) (x : Nat × Nat × Cont), hput h (u ++ [x]) = x :: hput h u := by
  intro u
  induction u with
  | nil => intro h x; rfl
  | cons y u ih => intro h x; simp only [List.cons_append, hput]; exact ih _ _
 have key : ∀ o c, hget (hput h (spread nb 0 cs ++ [(nb, widthC cs, .top)])) nb o = some c → (o = widthC cs ∧ c = .top) ∨ hget (hput h (spread nb 0 cs)) nb o = some c := by
  intro o c e
  rw [snoc, hget_cons] at e
  split at e
  ·rename_i he; injection e with e; exact .inl ⟨he.2.symm, e.symm⟩
  ·exact .inr e
 have hw := hc.width
 refine S.alloc (.pointer (some ⟨w.heap.size, 0, none⟩)) hnb hf (fun b hb => by simp [blk] at hb; omega) rfl rfl rfl (by simp) (fun b hb => RowKit.Below.heap_alloc w _ b hb) (fun m o _ hne => by rw [snoc, hget_ne nb _ _ _ hne]; exact hget_spread_ne nb _ _ _ _ _ hne) (fun gr o c e => ?_) (fun o o' c c' e e' hl hl' hlt => ?_)
 ·have hn := S.new w.heap.size (Nat.le_refl _)
  rcases key o c e with ⟨rfl, rfl⟩ | e
  ·exact ⟨w.heap.size, us.toArray, ty, by simp, heap_alloc_new w _, hn.1, hn.2, by simp [hw]⟩
  rcases hget_spread nb _ _ _ _ _ e with hm | ⟨e1, _⟩
  ·obtain ⟨_, a2, a3, a4⟩ := spread_mem nb hc hm
   cases c with
   | cell v =>
     obtain ⟨u, b1, b2, b3⟩ := a4
     exact ⟨w.heap.size, us.toArray, ty, u, by simp, heap_alloc_new w _, hn.1, hn.2, by simpa using b1, b2, b3.grow gr⟩
   | arr k f =>
     refine ⟨w.heap.size, us.toArray, ty, by simp, heap_alloc_new w _, hn.1, hn.2, fun i hi => ?_⟩
     obtain ⟨u, b1, b2, b3⟩ := a4 i hi
     exact ⟨u, by simpa using b1, b2, b3.grow gr⟩
   | _ => exact a4.elim
  ·have := fresh_dead S hnb hf e1
   cases c <;> simp [Cont.live] at this
   trivial
 ·rcases key o c e with ⟨rfl, rfl⟩ | e <;> rcases key o' c' e' with ⟨rfl, rfl⟩ | e'
  ·omega
  ·rcases hget_spread nb _ _ _ _ _ e' with hm' | ⟨e1', _⟩
   ·obtain ⟨_, a2, a3, _⟩ := spread_mem nb hc hm'
    have : 1 ≤ c'.wd ∨ c'.wd = 0 := by omega
    omega
   ·exact absurd hl' (fresh_dead S hnb hf e1')
  ·rcases hget_spread nb _ _ _ _ _ e with hm | ⟨e1, _⟩
   ·obtain ⟨_, a2, a3, _⟩ := spread_mem nb hc hm
    omega
   ·exact absurd hl (fresh_dead S hnb hf e1)
  ·rcases hget_spread nb _ _ _ _ _ e with hm | ⟨e1, _⟩
   ·rcases hget_spread nb _ _ _ _ _ e' with hm' | ⟨e1', _⟩
    ·exact spread_lay nb hc hm hm' hlt
    ·exact absurd hl' (fresh_dead S hnb hf e1')
   ·exact absurd hl (fresh_dead S hnb hf e1)
theorem Res.new (S : Sim mine ρ ro h w) {nb : Nat} (hnb : 0 < nb) (hf : ρ nb = none) {cs : List AV} {us : List Value} (hc : CRel ρ ro w cs us) (ty : Nat) :
 Res mine ρ ro w nb (hput h (spread nb 0 cs ++ [(nb, widthC cs, .top)])) (.ptr nb 0) (.pointer (some ⟨w.heap.size, 0, none⟩)) (w.alloc (.cells us.toArray ty)) := by
 obtain ⟨s, g, st⟩ := new_block S hnb hf hc ty
 exact ⟨_, _, g.m, bind1_names (k := 0) (by omega), s, .ptr nb 0 _ (by simp [bind1]), st⟩
theorem intOp_sound {op : BinOp} {k : IntKind} {a b : Int} {out : Out} (e : intOp op k a b = some out) (hs : ∀ q ∈ out.sides, q) (t : Nat) (hsh : op ≠ .shl ∧ op ≠ .shr) :
 out.rd = [] ∧ out.up = [] ∧ ∃ x, (binOp op t (.int k a) (.int k b)).run P w = .ok x w ∧ VRel ρ ro w out.val x := by
 cases op <;> simp only [intOp, pureOut, Option.some.injEq] at e <;> first
  | (subst e; refine ⟨rfl, rfl, ?_⟩; simp only [binOp, ne_eq, not_true_eq_false, if_false, Op.intArith, Op.intBits, Op.intCmp]; exact ⟨_, rfl, .int _ _⟩)
  | (subst e; refine ⟨rfl, rfl, ?_⟩; simp only [binOp, ne_eq, not_true_eq_false, if_false, Op.intArith, Op.intBits, Op.intCmp]; exact ⟨_, rfl, .bool _⟩)
  | (subst e; refine ⟨rfl, rfl, ?_⟩; have hb : b ≠ 0 := hs _ (by simp); simp only [binOp, ne_eq, not_true_eq_false, if_false, Op.intDiv, hb]; exact ⟨_, rfl, .int _ _⟩)
  | cases e
theorem shiftOp_sound {op : BinOp} {k k' : IntKind} {a b : Int} {out : Out} (e : shiftOp op k a b = some out) (hs : ∀ q ∈ out.sides, q) (t : Nat) :
 out.rd = [] ∧ out.up = [] ∧ ∃ x, (binOp op t (.int k a) (.int k' b)).run P w = .ok x w ∧ VRel ρ ro w out.val x := by
 cases op <;> simp only [shiftOp, Option.some.injEq] at e <;> first
  | (subst e; refine ⟨rfl, rfl, ?_⟩; have hb : 0 ≤ b := hs _ (by simp); have hb' : ¬ b < 0 := by omega
     simp only [binOp, Op.shift, hb', if_false]; exact ⟨_, rfl, .int _ _⟩)
  | cases e
theorem run_eqGuard_int (op : BinOp) (t : Nat) (x y : Operand) (k k' : IntKind) (a b : Int) : (eqGuard op t x y (.int k a) (.int k' b)).run P w = .ok () w := by
 unfold eqGuard; cases op <;> rfl
theorem run_eqGuard_bool (op : BinOp) (t : Nat) (x y : Operand) (a b : Bool) : (eqGuard op t x y (.bool a) (.bool b)).run P w = .ok () w := by
 unfold eqGuard; cases op <;> rfl
theorem VRel.int_inv {k : IntKind} {n : Int} {x : Value} (hv : VRel ρ ro w (.int k n) x) : x = .int k n := by cases hv; rfl
theorem VRel.bool_inv {b : Bool} {x : Value} (hv : VRel ρ ro w (.bool b) x) : x = .bool b := by cases hv; rfl
theorem VRel.str_inv {s : ByteArray} {x : Value} (hv : VRel ρ ro w (.str s) x) : x = .string s := by cases hv; rfl
theorem constAV_sound {v : Value} {av : AV} (e : constAV v = some av) : VRel ρ ro w av v := by
 unfold constAV at e
 split at e <;> first | (injection e with e; subst e; first | exact .int _ _ | exact .bool _ | exact .str _ | exact .nilp | exact .nils | exact .nilm | exact .nilf) | cases e
def SpecOK (P : Program) (f : Nat) (s : Spec) : Prop :=
 (∃ fn, P.funcs[f]? = some fn ∧ (fn.name == "runtime.NumGoroutine") = false ∧ fn.body.isNone = false) ∧
 (∀ (args : List AV) (hr : Rd) (nb : Nat) (out : Out), s args hr nb = some out → ∀ x ∈ out.rd, hr x.1 x.2.1 = some x.2.2) ∧
 ∀ (mine : Nat → Prop) (ρ : Env) (ro : Nat → Prop) (h : Heap) (w : World) (args : List AV) (xs : List Value) (hr : Rd) (nb : Nat) (out : Out), Sim mine ρ ro h w → LRel ρ ro w args xs → s args hr nb = some out →
   (∀ x ∈ out.rd, hget h x.1 x.2.1 = some x.2.2) → (∀ q ∈ out.sides, q) → 0 < nb → (∀ n, nb ≤ n → n < nb + 32 → ρ n = none) →
   Calls P f xs.toArray w fun e w' => ∃ x, e = .returned x ∧ Res mine ρ ro w nb (hput h out.up) out.val x w'
def SpecsOK (P : Program) (Γ : Specs) : Prop := ∀ f s, sget Γ f = some s → SpecOK P f s
theorem mapA_sound {g : Operand → Option AV} {a : Act} (hg : ∀ x v, g x = some v → VRel ρ ro w v (a.eval x)) : ∀ (l : List Operand) (vs : List AV), mapA g l = some vs → LRel ρ ro w vs (l.map a.eval)
 | [], vs, e => by simp [mapA] at e; subst e; exact .nil
 | x :: l, vs, e => by
   simp only [mapA] at e
   split at e
   ·rename_i b bs h1 h2
    injection e with e
    subst e
    exact .cons _ _ _ _ (hg x b h1) (mapA_sound hg l bs h2)
   ·cases e
theorem LRel.append {vs vs' : List AV} {xs xs' : List Value} (h1 : LRel ρ ro w vs xs) (h2 : LRel ρ ro w vs' xs') : LRel ρ ro w (vs ++ vs') (xs ++ xs') := by
 induction vs generalizing xs with
 | nil => cases h1; simpa using h2
 | cons v vs ih => cases h1 with | cons _ _ u us h t => exact .cons _ _ _ _ h (ih t)
theorem LRel.get {vs : List AV} {xs : List Value} (h1 : LRel ρ ro w vs xs) : ∀ {j : Nat} {v : AV}, vs[j]? = some v → ∃ x, xs[j]? = some x ∧ VRel ρ ro w v x := by
 induction vs generalizing xs with
 | nil => intro j v e; simp at e
 | cons c vs ih =>
   intro j v e
   cases h1 with
   | cons _ _ u us h t =>
     cases j with
     | zero => simp at e; subst e; exact ⟨u, rfl, h⟩
     | succ j => simp at e; simpa using ih t e
theorem wp_call {o : Oper} {a : Act} {K : Act → World → Prop} {Q : Exit → Act → World → Prop} {f : Nat} {xs cap : List Value} {R : Value → World → Prop} {c : Call} {fo : Operand} (ho : o.op = .call c) (hc : c.callee = .value fo) (hf : a.eval fo = .func (.func f) #[] cap.toArray)
 (hx : c.args.map a.eval = xs.toArray) (hfn : ∃ fn, P.funcs[f]? = some fn ∧ (fn.name == "runtime.NumGoroutine") = false ∧ fn.body.isNone = false)
 (hcall : Calls P f (xs ++ cap).toArray w fun e w' => ∃ x, e = .returned x ∧ R x w') (hK : ∀ x w', R x w' → K (a.put o.dst x) w') : o.wp P a w K Q := by
 obtain ⟨fn, h1, h2, h3⟩ := hfn
 unfold Oper.wp
 have hrun : (execOp a.eval o).run P w = .ok (.enter f (xs ++ cap).toArray) w := by
  simp only [execOp, ho, resolve, hc, hf, hx, Deferred.ofValue, Sem.run_bind, Sem.run_pure, Result.andThen_ok, invoke, callFunc, run_program, h1, h2, h3, Bool.false_eq_true, if_false, List.append_toArray]
  simp
 rw [hrun, Oper.upon_enter]
 refine hcall.mono fun e w' ⟨x, he, hR⟩ => ?_
 subst he
 exact hK x w' hR
end
end Go.Eng