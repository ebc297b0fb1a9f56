/- The engine, part 10c: 'evOp' is right. -/
import Derived.Test.YtodnecfgiimclaaEngY
set_option linter.unusedSimpArgs false
set_option linter.unusedVariables false
namespace Go.Eng
section
variable {P : Program} {mine : Nat → Prop} {ρ : Env} {ro : Nat → Prop} {h : Heap} {w : World}
theorem run_len_slice {t ty e : Nat} (ht : P.underlying t = some (.slice e)) (a : Option Addr) (n c : Nat) : (Builtin.len_ #[t] ty #[.slice a n c]).run P w = .ok (.int .i64 n) w := by
 simp [Builtin.len_, run_underlying ht, goInt]
theorem run_len_string {t ty : Nat} (ht : P.underlying t = some .string) (s : ByteArray) : (Builtin.len_ #[t] ty #[.string s]).run P w = .ok (.int .i64 s.size) w := by
 simp [Builtin.len_, run_underlying ht, goInt]
theorem evBuiltin_sound {T : Tab} (hT : TabOK P T) (S : Sim mine ρ ro h w) {ts : List Nat} {b : Builtin} {hr : Rd} {vs : List AV} {nb : Nat} {out : Out} (e : evBuiltin T ts b hr vs nb = some out) (hrd : ∀ y ∈ out.rd, hget h y.1 y.2.1 = some y.2.2) (hs : ∀ q ∈ out.sides, q)
 (hnb : 0 < nb) (hf : ρ nb = none) {xs : List Value} (hx : LRel ρ ro w vs xs) (ty : Nat) (cs : Array Bool) :
 ∃ y w', (builtin b ts.toArray ty cs xs.toArray).run P w = .ok (.value y) w' ∧ Res mine ρ ro w nb (hput h out.up) out.val y w' := by
 unfold evBuiltin at e
 split at e
 ·-- len
  rename_i x
  cases hx with
  | cons _ _ u us hv ht0 =>
    cases ht0
    split at e
    ·rename_i t
     split at e
     ·rename_i ht
      obtain ⟨d, hd, _, hst⟩ := (hT t _ ht).agg
      simp only at hst; subst hst
      simp only [pureOut, Option.some.injEq] at e
      subst e
      cases hv with
      | rs _ _ cap _ _ a vals hn hm hfull ha hl hc => exact ⟨_, w, by simp [builtin, run_len_slice hd], Res.of_pure S (.int _ _)⟩
     ·rename_i ht
      obtain ⟨d, hd, _, hst⟩ := (hT t _ ht).agg
      simp only at hst; subst hst
      simp only [pureOut, Option.some.injEq] at e
      subst e
      cases hv
      exact ⟨_, w, by simp [builtin, run_len_slice hd], Res.of_pure S (.int _ _)⟩
     ·rename_i ht
      obtain ⟨d, hd, _, hst⟩ := (hT t _ ht).agg
      simp only at hst; subst hst
      simp only [pureOut, Option.some.injEq] at e
      subst e
      cases hv
      exact ⟨_, w, by simp [builtin, run_len_string hd], Res.of_pure S (.int _ _)⟩
     ·rename_i n ht
      obtain ⟨d, hd, _, hst⟩ := (hT t _ ht).agg
      simp only at hst; subst hst
      split at e
      ·rename_i sz e' k f hk
       simp only [Option.some.injEq] at e
       subst e
       cases hv with
       | vs _ _ hj hsl =>
         obtain ⟨a, l, c, rfl⟩ := hsl
         obtain ⟨_, x', xs, c1, c2, c3, c4, c5⟩ := S.cont n 0 _ (name_pos S hj) (hrd (n, 0, .vec sz e' k f) (by simp))
         rw [hj] at c1
         injection c1 with c1
         subst c1
         have hlk : l = k := by
          rcases c3.2 with ⟨e1, e2⟩ | ⟨gg, cap, cur, e1, _⟩
          ·injection e1 with _ e1 _; omega
          ·injection e1
         subst hlk
         exact ⟨_, w, by simp [builtin, run_len_slice hd], Res.of_pure S (.int _ _)⟩
      ·cases e
     ·rename_i n ht
      obtain ⟨d, hd, _, hst⟩ := (hT t _ ht).agg
      simp only at hst; subst hst
      split at e
      ·rename_i ar es hk
       simp only [Option.some.injEq] at e
       subst e
       cases hv with
       | mp _ r hr0 =>
         obtain ⟨ms, clock, h2, h3, h4, h5, h6⟩ := map_at S hr0 (hrd (n, 0, .map ar es) (by simp))
         refine ⟨_, w, ?_, Res.of_pure S (.int _ _)⟩
         simp [builtin, Builtin.len_, run_underlying hd, MapKept.run_getObj_map h2, goInt, h5.1]
      ·cases e
     ·rename_i ht
      obtain ⟨d, hd, _, hst⟩ := (hT t _ ht).agg
      simp only at hst; subst hst
      simp only [pureOut, Option.some.injEq] at e
      subst e
      cases hv
      exact ⟨_, w, by simp [builtin, run_len_slice hd], Res.of_pure S (.int _ _)⟩
     ·cases e
    ·cases e
 ·-- max
  simp only [pureOut, Option.some.injEq] at e
  subst e
  rename_i k x k' y
  cases hx with
  | cons _ _ u us hv ht0 =>
    cases ht0 with
    | cons _ _ u' us' hv' ht1 =>
      cases ht1
      rw [hv.int_inv, hv'.int_inv]
      refine ⟨.int k (mx2 x y), w, ?_, Res.of_pure S (.int _ _)⟩
      simp [builtin, Builtin.max_, Builtin.max2, mx2]
 ·-- min
  simp only [pureOut, Option.some.injEq] at e
  subst e
  rename_i k x k' y
  cases hx with
  | cons _ _ u us hv ht0 =>
    cases ht0 with
    | cons _ _ u' us' hv' ht1 =>
      cases ht1
      rw [hv.int_inv, hv'.int_inv]
      refine ⟨.int k (mn2 x y), w, ?_, Res.of_pure S (.int _ _)⟩
      simp [builtin, Builtin.min_, Builtin.min2, mn2]
 ·-- append
  cases hx with
  | cons _ _ u us hv ht0 =>
    cases ht0 with
    | cons _ _ u' us' hv' ht1 =>
      cases ht1
      obtain ⟨y, w', h1, h2⟩ := evAppend_sound (P := P) hT S e hrd hs hnb hf hv hv' ty
      exact ⟨y, w', by simp [builtin, h1], h2⟩
 ·-- copy
  cases hx with
  | cons _ _ u us hv ht0 =>
    cases ht0 with
    | cons _ _ u' us' hv' ht1 =>
      cases ht1
      obtain ⟨y, w', h1, h2⟩ := evCopy_sound (P := P) (nb := nb) hT S e hrd hs hv hv' ty
      exact ⟨y, w', by simp [builtin, h1], h2⟩
 ·-- delete
  cases hx with
  | cons _ _ u us hv ht0 =>
    cases ht0 with
    | cons _ _ u' us' hv' ht1 =>
      cases ht1
      split at e
      ·rename_i t ts'
       obtain ⟨h0, w', h1, h2, h3, h4⟩ := evMapDel_sound (P := P) hT S e hrd hv hv' ts' ty
       refine ⟨.tuple #[], w', by simp [builtin, h1], ?_⟩
       rw [h0]
       exact ⟨ρ, ro, h3.m, fun _ hn => absurd rfl hn, h2, .tup [] [] .nil, h4⟩
      ·cases e
 ·cases e
theorem evOp_sound {T : Tab} (hT : TabOK P T) {Γ : Specs} (hΓ : SpecsOK P Γ) (S : Sim mine ρ ro h w) {o : Oper} {a : Act} {g : Operand → Option AV} (hg : ∀ x v, g x = some v → VRel ρ ro w v (a.eval x)) {hr : Rd} {nb : Nat} {out : Out}
 (e : evOp T Γ o.op g hr nb = some out) (hrd : ∀ y ∈ out.rd, hget h y.1 y.2.1 = some y.2.2) (hs : ∀ q ∈ out.sides, q) (hnb : 0 < nb) (hf : ∀ n, nb ≤ n → n < nb + 32 → ρ n = none) {K : Act → World → Prop} {Q : Exit → Act → World → Prop}
 (hK : ∀ x w', Res mine ρ ro w nb (hput h out.up) out.val x w' → K (a.put o.dst x) w') : o.wp P a w K Q := by
 have hf0 : ρ nb = none := hf nb (Nat.le_refl _) (by omega)
 have value : ∀ {x : Value} {w' : World}, (execOp a.eval o).run P w = .ok (.value x) w' → Res mine ρ ro w nb (hput h out.up) out.val x w' → o.wp P a w K Q := fun e r => wp_value e (hK _ _ r)
 cases hop : o.op with
 | move x =>
   rw [hop] at e; simp only [evOp] at e
   obtain ⟨v, h1, h2⟩ := Option.bind_eq_some_iff.1 e
   simp only [pureOut, Option.some.injEq] at h2; subst h2
   exact value (by simp [execOp, hop]) (Res.of_pure S (hg x v h1))
 | assign x =>
   rw [hop] at e; simp only [evOp] at e
   obtain ⟨v, h1, h2⟩ := Option.bind_eq_some_iff.1 e
   simp only [pureOut, Option.some.injEq] at h2; subst h2
   exact value (by simp [execOp, hop]) (Res.of_pure S (hg x v h1))
 | alloc el =>
   rw [hop] at e; simp only [evOp] at e
   obtain ⟨ti, h1, h2⟩ := Option.bind_eq_some_iff.1 e
   simp only [Option.some.injEq] at h2; subst h2
   obtain ⟨ie, ze, hie, hse, hbe, hze, hzc⟩ := (hT el ti h1).info
   refine value (x := .pointer (some ⟨w.heap.size, 0, none⟩)) (w' := w.alloc (.cells ze.cells el)) ?_ (Res.new S hnb hf0 (hzc ρ ro w) el)
   simp [execOp, hop, Instr.alloc, run_zero hie hze, newVar, newRow]
 | box el x =>
   rw [hop] at e; simp only [evOp] at e
   obtain ⟨v, h1, h2⟩ := Option.bind_eq_some_iff.1 e
   cases hp : v.plain with
   | false => simp [hp] at h2
   | true =>
     simp only [hp, cond_true, Option.some.injEq] at h2; subst h2
     have hv := (hg x v h1).cells hp
     refine value (x := .pointer (some ⟨w.heap.size, 0, none⟩)) (w' := w.alloc (.cells (a.eval x).cells el)) ?_ (Res.new S hnb hf0 hv el)
     simp [execOp, hop, Instr.box, newVar, newRow]
 | load t p =>
   rw [hop] at e; simp only [evOp] at e
   obtain ⟨v, h1, h2⟩ := Option.bind_eq_some_iff.1 e
   obtain ⟨hu, y, h3, h4⟩ := evLoad_sound (P := P) hT S h2 hrd hs (hg p v h1)
   refine value (x := y) (w' := w) (by simp [execOp, hop, h3]) ?_
   rw [hu]
   exact Res.of_pure S h4
 | store t p x =>
   rw [hop] at e; simp only [evOp] at e
   obtain ⟨pv, xv, h1, h2, h3⟩ : ∃ pv xv, g p = some pv ∧ g x = some xv ∧ evStore T hr t pv xv = some out := by
    split at e
    ·rename_i pv xv h1 h2; exact ⟨pv, xv, h1, h2, e⟩
    ·cases e
   have hp := hg p pv h1
   have hx := hg x xv h2
   have fin : ∀ w', (Instr.storeAt t (a.eval p) (a.eval x)).run P w = .ok () w' → Sim mine ρ ro (hput h out.up) w' → Grow ρ ρ ro ro w w' → Step mine w w' → out.val = .tup [] → o.wp P a w K Q := by
    intro w' hr s gr st hval
    refine wp_skip' (w' := w') (by simp [execOp, hop, hr]) (hK _ _ ?_)
    refine ⟨ρ, ro, gr.m, fun _ hn => absurd rfl hn, s, ?_, st⟩
    rw [hval]
    exact .tup [] [] .nil
   unfold evStore at h3
   cases htt : tget T t with
   | none => simp [htt] at h3
   | some ti =>
     have hti := hT t ti htt
     simp only [htt] at h3
     generalize hpe : a.eval p = pp at hp fin
     cases hp with
     | ptr n off b hb =>
       simp only at h3
       obtain ⟨r, h4, h5⟩ := Option.bind_eq_some_iff.1 h3
       cases hq : (xv.plain && widthC r.1 == ti.cells && widthC xv.cells == ti.cells && sameKeys r.2 (spread n off xv.cells)) with
       | false => simp [hq] at h5
       | true =>
         simp only [hq, cond_true, Option.some.injEq] at h5
         subst h5
         simp only [Bool.and_eq_true, beq_iff_eq] at hq
         obtain ⟨w', k1, k2, k3, k4⟩ := evStore_ptr (P := P) S hb hti h4 hrd hx hq.1.1.1 hq.1.2 hq.2
         exact fin w' k1 k2 k3 k4 rfl
     | pe n off b i hb =>
       simp only at h3
       split at h3
       ·rename_i k f hk
        cases hq : (xv.one && ti.cells == 1 && !ti.und.isAgg) with
        | false => simp [hq] at h3
        | true =>
          simp only [hq, cond_true, Option.some.injEq] at h3
          subst h3
          simp only [Bool.and_eq_true, beq_iff_eq] at hq
          obtain ⟨w', k1, k2, k3, k4⟩ := evStore_pe (P := P) S hb (hrd (n, off, .arr k f) (by simp)) (hs (0 ≤ i) (by simp)) (hs (i < (k : Int)) (by simp)) hti hq.1.2 hx hq.1.1
          exact fin w' k1 k2 k3 k4 rfl
       ·cases h3
     | vp n sz off b len cap i hb =>
       simp only at h3
       split at h3
       ·rename_i sz' e' k f hk
        obtain ⟨cs, h4, h5⟩ := Option.bind_eq_some_iff.1 h3
        obtain ⟨x', h6, rfl⟩ := Option.map_eq_some_iff.1 h5
        cases hpl : xv.plain with
        | false => simp [hpl] at h4
        | true =>
          simp only [hpl, cond_true] at h4
          have hsz : sz = sz' := hs (sz = sz') (by simp)
          subst hsz
          obtain ⟨w', k1, k2, k3, k4⟩ := evStore_vp (P := P) S hb (hrd (n, 0, .vec sz e' k f) (by simp)) (hs (0 ≤ i) (by simp)) (hs (i < (k : Int)) (by simp)) hti hx hpl (hs (widthC xv.cells = ti.cells) (by simp)) h4 h6
          exact fin w' k1 k2 k3 k4 rfl
       ·cases h3
     | _ => simp at h3
 | fieldAddr t p j =>
   rw [hop] at e; simp only [evOp] at e
   obtain ⟨v, h1, h2⟩ := Option.bind_eq_some_iff.1 e
   obtain ⟨hu, y, h3, h4⟩ := evField_sound (P := P) hT h2 (hg p v h1)
   refine value (x := y) (w' := w) (by simp [execOp, hop, h3]) ?_
   rw [hu]
   exact Res.of_pure S h4
 | field t x j =>
   rw [hop] at e; simp only [evOp] at e
   obtain ⟨v, h1, h2⟩ := Option.bind_eq_some_iff.1 e
   obtain ⟨hu, y, h3, h4⟩ := evValField_sound (P := P) hT h2 (hg x v h1)
   refine value (x := y) (w' := w) (by simp [execOp, hop, h3]) ?_
   rw [hu]
   exact Res.of_pure S h4
 | build t ps =>
   rw [hop] at e; simp only [evOp] at e
   obtain ⟨vs, h1, h2⟩ := Option.bind_eq_some_iff.1 e
   obtain ⟨k1, k2⟩ := mapP_sound hg _ _ h1
   obtain ⟨hu, y, h3, h4⟩ := evBuild_sound (P := P) hT h2 (qs := ps.toList.map fun x => (x.1, a.eval x.2)) (by simp [k1]) k2
   refine value (x := y) (w' := w) ?_ ?_
   ·have : (ps.map fun (i, x) => (i, a.eval x)) = (ps.toList.map fun x => (x.1, a.eval x.2)).toArray := by
     apply Array.ext'; simp
    simp only [execOp, hop, this, Sem.run_bind, h3, Result.andThen_ok, Sem.run_pure]
   ·rw [hu]; exact Res.of_pure S h4
 | buildSlice t n ps =>
   rw [hop] at e; simp only [evOp] at e
   obtain ⟨vs, h1, h2⟩ := Option.bind_eq_some_iff.1 e
   obtain ⟨k1, k2⟩ := mapP_sound hg _ _ h1
   obtain ⟨y, w', h3, h4⟩ := evLit_sound (P := P) hT S h2 hnb hf0 (qs := ps.toList.map fun x => (x.1, a.eval x.2)) (by simp [k1]) k2
   refine value (x := y) (w' := w') ?_ h4
   have : (ps.map fun (i, x) => (i, a.eval x)) = (ps.toList.map fun x => (x.1, a.eval x.2)).toArray := by
    apply Array.ext'; simp
   simp only [execOp, hop, this, Sem.run_bind, h3, Result.andThen_ok, Sem.run_pure]
 | makeSlice t n m =>
   rw [hop] at e; simp only [evOp] at e
   obtain ⟨nv, mv, h1, h2, h3⟩ : ∃ nv mv, g n = some nv ∧ g m = some mv ∧ evMake T t nv mv nb = some out := by
    split at e
    ·rename_i nv mv h1 h2; exact ⟨nv, mv, h1, h2, e⟩
    ·cases e
   obtain ⟨y, w', h4, h5⟩ := evMake_sound (P := P) hT S h3 hs hnb hf0 (hg n nv h1) (hg m mv h2)
   exact value (x := y) (w' := w') (by simp [execOp, hop, h4]) h5
 | binOp op t x y ty =>
   rw [hop] at e; simp only [evOp] at e
   have fin : ∀ {vx vy : Value}, a.eval x = vx → a.eval y = vy → (eqGuard op t x y vx vy).run P w = .ok () w → out.up = [] → (∃ z, (binOp op t vx vy).run P w = .ok z w ∧ VRel ρ ro w out.val z) → o.wp P a w K Q := by
    intro vx vy ex ey hgd hu hz
    obtain ⟨z, h1, h2⟩ := hz
    refine value (x := z) (w' := w) ?_ (by rw [hu]; exact Res.of_pure S h2)
    simp only [execOp, hop, ex, ey, Sem.run_bind, hgd, Result.andThen_ok, h1, Sem.run_pure]
   split at e
   ·rename_i k p k' q h1 h2
    have ex := (hg x _ h1).int_inv
    have ey := (hg y _ h2).int_inv
    have main : (op = .shl ∨ op = .shr) → shiftOp op k p q = some out → o.wp P a w K Q := fun _ he => by
     obtain ⟨_, h3, h4⟩ := shiftOp_sound (P := P) (w := w) (ρ := ρ) (ro := ro) (k' := k') he hs t
     exact fin ex ey (run_eqGuard_int op t x y k k' p q) h3 h4
    have main2 : op ≠ .shl ∧ op ≠ .shr → (bif k == k' then intOp op k p q else none) = some out → o.wp P a w K Q := fun hsh he => by
     cases hk : (k == k') with
     | false => simp [hk] at he
     | true =>
       simp only [hk, cond_true] at he
       simp at hk
       subst hk
       obtain ⟨_, h3, h4⟩ := intOp_sound (P := P) (w := w) (ρ := ρ) (ro := ro) he hs t hsh
       exact fin ex ey (run_eqGuard_int op t x y k k p q) h3 h4
    cases op <;> simp only at e <;> first | exact main (.inl rfl) e | exact main (.inr rfl) e | exact main2 (by simp) e
   ·rename_i p q h1 h2
    have ex := (hg x _ h1).str_inv
    have ey := (hg y _ h2).str_inv
    have gd : (eqGuard op t x y (.string p) (.string q)).run P w = .ok () w := by unfold eqGuard; cases op <;> rfl
    split at e
    ·simp only [pureOut, Option.some.injEq] at e; subst e
     exact fin ex ey gd rfl ⟨.bool (p.toList == q.toList), rfl, .bool _⟩
    ·simp only [pureOut, Option.some.injEq] at e; subst e
     exact fin ex ey gd rfl ⟨.bool (!(p.toList == q.toList)), rfl, .bool _⟩
    ·simp only [Option.some.injEq] at e; subst e
     have hl : p.size + q.size ≤ 1000000000 := hs _ (by simp)
     refine fin ex ey gd rfl ⟨.string (p ++ q), ?_, .str _⟩
     have hn : ¬ (((p.size + q.size : Nat) : Int) > IntKind.i64.max) := by
      have : IntKind.i64.max = 9223372036854775807 := by decide
      omega
     show (Op.stringOp .add p q).run P w = _
     unfold Op.stringOp
     simp only [if_neg hn]
     rfl
    ·cases e
   ·rename_i p q h1 h2
    have ex := (hg x _ h1).bool_inv
    have ey := (hg y _ h2).bool_inv
    have eqr : P.underlying t = some .bool → (Op.equal t (.bool p) (.bool q)).run P w = .ok (p == q) w := fun hu => by
     have : ∀ d, (Op.equalIn (d + 1) t (.bool p) (.bool q)).run P w = .ok (p == q) w := fun d => by simp [Op.equalIn, run_underlying hu]
     exact this 9999
    split at e
    ·rename_i ht
     obtain ⟨d, hd, _, hst⟩ := (hT t _ ht).agg
     simp only at hst; subst hst
     simp only [pureOut, Option.some.injEq] at e; subst e
     exact fin ex ey (run_eqGuard_bool _ t x y p q) rfl ⟨.bool (p == q), by simp only [binOp, Sem.run_bind, eqr hd, Result.andThen_ok, Sem.run_pure], .bool _⟩
    ·rename_i ht
     obtain ⟨d, hd, _, hst⟩ := (hT t _ ht).agg
     simp only at hst; subst hst
     simp only [pureOut, Option.some.injEq] at e; subst e
     exact fin ex ey (run_eqGuard_bool _ t x y p q) rfl ⟨.bool (!(p == q)), by simp only [binOp, Sem.run_bind, eqr hd, Result.andThen_ok, Sem.run_pure], .bool _⟩
    ·cases e
   ·rename_i cs ds h1 h2
    obtain ⟨us, ex, hu⟩ := (hg x _ h1).agg_inv
    obtain ⟨vs, ey, hv⟩ := (hg y _ h2).agg_inv
    obtain ⟨e1, e2, e3, e4⟩ := evEq_sound (P := P) hT e hs hu hv x y
    exact fin ex ey e2 e3 e4
   ·rename_i n1 o1 h1 h2
    have ex := hg x _ h1
    have ey := hg y _ h2
    generalize hxa : a.eval x = xa at ex
    generalize hya : a.eval y = ya at ey
    cases ex with
    | ptr _ _ b hb =>
      cases ey
      have gd : (eqGuard op t x y (.pointer (some ⟨b, o1, none⟩)) (.pointer none)).run P w = .ok () w := by unfold eqGuard; cases op <;> rfl
      have eqr : ∀ e', P.underlying t = some (.pointer e') → (Op.equal t (.pointer (some ⟨b, o1, none⟩)) (.pointer none)).run P w = .ok false w := fun e' hu => by
       have : ∀ d, (Op.equalIn (d + 1) t (.pointer (some ⟨b, o1, none⟩)) (.pointer none)).run P w = .ok false w := fun d => by simp [Op.equalIn, run_underlying hu]
       exact this 9999
      unfold evPtr at e
      split at e
      ·rename_i ht
       obtain ⟨d, hd, _, hst⟩ := (hT t _ ht).agg
       simp only at hst; subst hst
       simp only [pureOut, Option.some.injEq] at e; subst e
       exact fin hxa hya gd rfl ⟨.bool false, by simp only [binOp, Sem.run_bind, eqr _ hd, Result.andThen_ok, Sem.run_pure], .bool _⟩
      ·rename_i ht
       obtain ⟨d, hd, _, hst⟩ := (hT t _ ht).agg
       simp only at hst; subst hst
       simp only [pureOut, Option.some.injEq] at e; subst e
       exact fin hxa hya gd rfl ⟨.bool (!false), by simp only [binOp, Sem.run_bind, eqr _ hd, Result.andThen_ok, Sem.run_pure], .bool _⟩
      ·cases e
   ·rename_i h1 h2
    have ex := hg x _ h1
    have ey := hg y _ h2
    generalize hxa : a.eval x = xa at ex
    generalize hya : a.eval y = ya at ey
    cases ex
    cases ey
    have gd : (eqGuard op t x y (.pointer none) (.pointer none)).run P w = .ok () w := by unfold eqGuard; cases op <;> rfl
    have eqr : ∀ e', P.underlying t = some (.pointer e') → (Op.equal t (.pointer none) (.pointer none)).run P w = .ok true w := fun e' hu => by
     have : ∀ d, (Op.equalIn (d + 1) t (.pointer none) (.pointer none)).run P w = .ok true w := fun d => by simp [Op.equalIn, run_underlying hu]
     exact this 9999
    unfold evPtr at e
    split at e
    ·rename_i ht
     obtain ⟨d, hd, _, hst⟩ := (hT t _ ht).agg
     simp only at hst; subst hst
     simp only [pureOut, Option.some.injEq] at e; subst e
     exact fin hxa hya gd rfl ⟨.bool true, by simp only [binOp, Sem.run_bind, eqr _ hd, Result.andThen_ok, Sem.run_pure], .bool _⟩
    ·rename_i ht
     obtain ⟨d, hd, _, hst⟩ := (hT t _ ht).agg
     simp only at hst; subst hst
     simp only [pureOut, Option.some.injEq] at e; subst e
     exact fin hxa hya gd rfl ⟨.bool (!true), by simp only [binOp, Sem.run_bind, eqr _ hd, Result.andThen_ok, Sem.run_pure], .bool _⟩
    ·cases e
   ·cases e
 | unOp op t x =>
   rw [hop] at e; simp only [evOp] at e
   split at e
   ·rename_i b h1
    simp only [pureOut, Option.some.injEq] at e; subst e
    have ex := (hg x _ h1).bool_inv
    exact value (x := .bool !b) (w' := w) (by simp [execOp, hop, ex, Op.unary]) (Res.of_pure S (.bool _))
   ·rename_i k p h1
    simp only [pureOut, Option.some.injEq] at e; subst e
    have ex := (hg x _ h1).int_inv
    exact value (x := .int k (k.wrap (0 - p))) (w' := w) (by simp [execOp, hop, ex, Op.unary, Op.intArith]) (Res.of_pure S (.int _ _))
   ·cases e
 | convert src dst x =>
   rw [hop] at e; simp only [evOp] at e
   split at e
   ·rename_i ts _ _ k _ _ p hsrc hdst h1
    simp only [pureOut, Option.some.injEq] at e; subst e
    obtain ⟨d1, hd1, _⟩ := (hT src _ hsrc).agg
    obtain ⟨d2, hd2, _, hst⟩ := (hT dst _ hdst).agg
    simp only at hst; subst hst
    have ex := (hg x _ h1).int_inv
    refine value (x := .int k (k.wrap p)) (w' := w) ?_ (Res.of_pure S (.int _ _))
    simp [execOp, hop, ex, convert, run_underlying hd1, run_underlying hd2, Conv.intToInt]
   ·rename_i el _ _ _ _ xv hsrc hdst h1
    obtain ⟨d1, hd1, _, hst1⟩ := (hT src _ hsrc).agg
    simp only at hst1; subst hst1
    obtain ⟨d2, hd2, _, hst⟩ := (hT dst _ hdst).agg
    simp only at hst; subst hst
    obtain ⟨hu, y, h3, h4⟩ := evToStr_sound (P := P) hT S e hrd hs hd1 hd2 (hg x xv h1)
    refine value (x := y) (w' := w) (by simp [execOp, hop, h3]) (by rw [hu]; exact Res.of_pure S h4)
   ·rename_i _ _ _ _ _ el _ s hsrc hdst h1
    obtain ⟨d1, hd1, _, hst1⟩ := (hT src _ hsrc).agg
    simp only at hst1; subst hst1
    obtain ⟨d2, hd2, _, hst⟩ := (hT dst _ hdst).agg
    simp only at hst; subst hst
    obtain ⟨y, w', h3, h4⟩ := evToBytes_sound (P := P) hT S e hs hnb hf0 hd1 hd2
    have ex := (hg x _ h1).str_inv
    exact value (x := y) (w' := w') (by simp [execOp, hop, ex, h3]) h4
   ·cases e
 | indexAddr t x i =>
   rw [hop] at e; simp only [evOp] at e
   split at e
   ·rename_i el _ sz n full f ki j ht h1 h2
    split at e
    ·rename_i te hte
     simp only [Option.some.injEq] at e; subst e
     obtain ⟨d, hd, _, hst⟩ := (hT t _ ht).agg
     simp only at hst; subst hst
     obtain ⟨ie, ze, hie, hse, _⟩ := (hT el te hte).info
     have h0 : 0 ≤ j := hs (0 ≤ j) (by simp)
     have hlt : j < (n : Int) := hs (j < (n : Int)) (by simp)
     have hsz : sz = te.cells := hs (sz = te.cells) (by simp)
     have ei := (hg i _ h2).int_inv
     have hx := hg x _ h1
     generalize hxe : a.eval x = xx at hx
     cases hx with
     | rs _ _ cap _ _ ad vals hn hm hfull ha hl hc =>
       obtain ⟨b, rfl, b2, b3, b4⟩ := ha (by omega)
       refine value (x := .pointer (some (b.add (j.toNat * sz)))) (w' := w) ?_ (Res.of_pure S ?_)
       ·simp [execOp, hop, hxe, ei, Instr.indexAt, asIntOf, run_underlying hd, h0, hlt, sizeOf, typeInfo, hie, hse, hsz]
       ·refine .rp _ _ (vals j.toNat) (by rw [add_block]; exact b2) ?_ (fun k u hk => ?_) (hc _ (by omega))
        ·unfold Addr.add; split
         ·exact b3
         ·rfl
        ·rw [add_add _ _ _ b3]; exact b4 _ (by omega) k u hk
    ·cases e
   ·rename_i el _ m ki j ht h1 h2
    split at e
    ·rename_i te sz e' n f hte hk
     simp only [Option.some.injEq] at e; subst e
     obtain ⟨d, hd, _, hst⟩ := (hT t _ ht).agg
     simp only at hst; subst hst
     obtain ⟨ie, ze, hie, hse, _⟩ := (hT el te hte).info
     have h0 : 0 ≤ j := hs (0 ≤ j) (by simp)
     have hlt : j < (n : Int) := hs (j < (n : Int)) (by simp)
     have hsz : sz = te.cells := hs (sz = te.cells) (by simp)
     have ei := (hg i _ h2).int_inv
     have hx := hg x _ h1
     generalize hxe : a.eval x = xx at hx
     cases hx with
     | vs _ _ hj hsl =>
       obtain ⟨_, x', xs, c1, c2, c3, c4, c5⟩ := S.cont m 0 _ (name_pos S hj) (hrd (m, 0, .vec sz e' n f) (by simp))
       rw [hj] at c1
       injection c1 with c1
       subst c1
       rcases c3.2 with ⟨rfl, hz⟩ | ⟨gg, cap, cur, rfl, _⟩
       ·omega
       ·refine value (x := .pointer (some ⟨gg, j.toNat * sz + 0, none⟩)) (w' := w) ?_ (Res.of_pure S (.vp m sz 0 gg n cap j hj))
        simp [execOp, hop, hxe, ei, Instr.indexAt, asIntOf, run_underlying hd, h0, hlt, sizeOf, typeInfo, hie, hse, hsz, add_at]
    ·cases e
   ·rename_i n el _ _ m off ki j ht h1 h2
    split at e
    ·rename_i te hte
     cases hq : (te.cells == 1) with
     | false => simp [hq] at e
     | true =>
       simp only [hq, cond_true, Option.some.injEq] at e; subst e
       simp at hq
       obtain ⟨d, hd, _, hst⟩ := (hT t _ ht).agg
       simp only at hst; subst hst
       obtain ⟨ie, ze, hie, hse, _⟩ := (hT el te hte).info
       have h0 : 0 ≤ j := hs (0 ≤ j) (by simp)
       have hlt : j < (n : Int) := hs (j < (n : Int)) (by simp)
       have ei := (hg i _ h2).int_inv
       have hx := hg x _ h1
       generalize hxe : a.eval x = xx at hx
       cases hx with
       | ptr _ _ b hb =>
         refine value (x := .pointer (some ⟨b, off + j.toNat, none⟩)) (w' := w) ?_ (Res.of_pure S (.pe m off b j hb))
         simp [execOp, hop, hxe, ei, Instr.indexAt, Instr.sureAddr, asIntOf, run_underlying hd, h0, hlt, sizeOf, typeInfo, hie, hse, hq, add_at]
    ·cases e
   ·rename_i n el _ m off ki j _ ht h1 h2
    split at e
    ·rename_i te hte
     simp only [Option.some.injEq] at e; subst e
     obtain ⟨d, hd, _, hst⟩ := (hT t _ ht).agg
     simp only at hst; subst hst
     obtain ⟨ie, ze, hie, hse, _⟩ := (hT el te hte).info
     have h0 : 0 ≤ j := hs (0 ≤ j) (by simp)
     have hlt : j < (n : Int) := hs (j < (n : Int)) (by simp)
     have ei := (hg i _ h2).int_inv
     have hx := hg x _ h1
     generalize hxe : a.eval x = xx at hx
     cases hx with
     | ptr _ _ b hb =>
       refine value (x := .pointer (some ⟨b, off + j.toNat * te.cells, none⟩)) (w' := w) ?_ (Res.of_pure S (.ptr m _ b hb))
       simp [execOp, hop, hxe, ei, Instr.indexAt, Instr.sureAddr, asIntOf, run_underlying hd, h0, hlt, sizeOf, typeInfo, hie, hse, add_at]
    ·cases e
   ·cases e
 | index t x i =>
   rw [hop] at e; simp only [evOp] at e
   split at e
   ·rename_i xv ki j h1 h2
    have ei := (hg i _ h2).int_inv
    obtain ⟨hu, hr2, y, h3, h4⟩ := evIndex_sound (P := P) (k := ki) hT e hs (hg x xv h1)
    refine value (x := y) (w' := w) (by simp [execOp, hop, ei, h3]) (by rw [hu]; exact Res.of_pure S h4)
   ·cases e
 | extract x j =>
   rw [hop] at e; simp only [evOp] at e
   split at e
   ·rename_i vs h1
    obtain ⟨v, h2, h3⟩ := Option.bind_eq_some_iff.1 e
    simp only [pureOut, Option.some.injEq] at h3; subst h3
    have hx := hg x _ h1
    generalize hxe : a.eval x = xx at hx
    cases hx with
    | tup _ us hl =>
      obtain ⟨u, h4, h5⟩ := hl.get h2
      refine value (x := u) (w' := w) ?_ (Res.of_pure S h5)
      simp [execOp, hop, hxe, Instr.extract, h4]
   ·cases e
 | slice t x lo hi mx =>
   rw [hop] at e; simp only [evOp] at e
   split at e
   ·rename_i j lo' hi' mx' h1 h2 h3 h4
    have opt : ∀ {l : Option Operand} {l' : Option Int}, optInt (l.map g) = some l' → OptV l' (l.map a.eval) := by
     intro l l' hl
     cases l with
     | none => simp [optInt] at hl; subst hl; trivial
     | some y =>
       simp only [Option.map_some] at hl ⊢
       cases hy : g y with
       | none => rw [hy] at hl; simp [optInt] at hl
       | some v =>
         rw [hy] at hl
         cases v <;> simp [optInt] at hl
         subst hl
         rw [(hg y _ hy).int_inv]
         rfl
    obtain ⟨y, h5, h6⟩ := evPart_sound (P := P) hT S e hrd hs hnb hf0 (hg x _ h1) (opt h2) (opt h3) (opt h4)
    exact value (x := y) (w' := w) (by simp [execOp, hop, h5]) h6
   ·rename_i xv lo' hi' mx' _ h1 h2 h3 h4
    have opt : ∀ {l : Option Operand} {l' : Option Int}, optInt (l.map g) = some l' → OptV l' (l.map a.eval) := by
     intro l l' hl
     cases l with
     | none => simp [optInt] at hl; subst hl; trivial
     | some y =>
       simp only [Option.map_some] at hl ⊢
       cases hy : g y with
       | none => rw [hy] at hl; simp [optInt] at hl
       | some v =>
         rw [hy] at hl
         cases v <;> simp [optInt] at hl
         subst hl
         rw [(hg y _ hy).int_inv]
         rfl
    obtain ⟨hu, y, h5, h6⟩ := evSlice_sound (P := P) hT e hs (hg x xv h1) (opt h2) (opt h3) (opt h4)
    refine value (x := y) (w' := w) (by simp [execOp, hop, h5]) (by rw [hu]; exact Res.of_pure S h6)
   ·cases e
 | makeFunc fn first cap =>
   rw [hop] at e
   cases fn with
   | func f =>
     simp only [evOp] at e
     cases hfi : first.isEmpty with
     | false => simp [hfi] at e
     | true =>
       simp only [hfi, cond_true] at e
       obtain ⟨vs, h1, h2⟩ := Option.bind_eq_some_iff.1 e
       simp only [pureOut, Option.some.injEq] at h2; subst h2
       have hl := mapA_sound hg _ _ h1
       have hfe : first = #[] := by simpa using hfi
       subst hfe
       refine value (x := .func (.func f) #[] (cap.map a.eval)) (w' := w) ?_ ?_
       ·simp [execOp, hop, Instr.makeFunc]
       ·have := VRel.fn (ρ := ρ) (ro := ro) (w := w) f vs _ hl
        have e2 : (cap.toList.map a.eval).toArray = cap.map a.eval := by apply Array.ext'; simp
        rw [e2] at this
        exact Res.of_pure S this
   | _ => simp [evOp] at e
 | makeMap t rsv =>
   rw [hop] at e
   cases rsv with
   | some _ => simp only [evOp] at e; cases e
   | none =>
     simp only [evOp] at e
     split at e
     ·obtain ⟨ar, _, rfl⟩ := Option.map_eq_some_iff.1 e
      exact value (x := .map (some w.heap.size)) (w' := w.alloc (.map #[] 0)) (by simp [execOp, hop, Instr.makeMap]) (Res.newMap S hnb hf0 ar)
     ·cases e
 | lookup t x i ok =>
   rw [hop] at e; simp only [evOp] at e
   split at e
   ·rename_i xv iv' h1 h2
    obtain ⟨hu, y, h3, h4⟩ := evLookup_sound (P := P) hT S e hrd hs (hg x xv h1) (hg i iv' h2)
    refine value (x := y) (w' := w) (by simp [execOp, hop, h3]) (by rw [hu]; exact Res.of_pure S h4)
   ·cases e
 | mapUpdate t m k v =>
   rw [hop] at e; simp only [evOp] at e
   split at e
   ·rename_i n kv vv h1 h2 h3
    obtain ⟨h0, w', h4, h5, h6, h7⟩ := evMapPut_sound (P := P) hT S e hrd (hg m _ h1) (hg k kv h2) (hg v vv h3)
    refine wp_skip' (w' := w') (by simp [execOp, hop, h4]) (hK _ _ ?_)
    refine ⟨ρ, ro, h6.m, fun _ hn => absurd rfl hn, h5, ?_, h7⟩
    rw [h0]
    exact .tup [] [] .nil
   ·cases e
 | mapEntry t m k =>
   rw [hop] at e; simp only [evOp] at e
   split at e
   ·rename_i n kv h1 h2
    obtain ⟨y, w', h4, h5, h6, h7, h8⟩ := evMapEntry_sound (P := P) hT S e hrd hs (hg m _ h1) (hg k kv h2)
    exact value (x := y) (w' := w') (by simp [execOp, hop, h4]) ⟨ρ, ro, h7.m, fun _ hn => absurd rfl hn, h6, h5, h8⟩
   ·cases e
 | entryStore t m s v =>
   rw [hop] at e; simp only [evOp] at e
   split at e
   ·rename_i n sv vv h1 h2 h3
    have hsv := (hg s _ h2).int_inv
    obtain ⟨h0, w', h4, h5, h6, h7⟩ := evEntryStore_sound (P := P) (t := t) S e hrd hs (hg m _ h1) (hg v vv h3)
    refine wp_skip' (w' := w') (by simp [execOp, hop, hsv, h4]) (hK _ _ ?_)
    refine ⟨ρ, ro, h6.m, fun _ hn => absurd rfl hn, h5, ?_, h7⟩
    rw [h0]
    exact .tup [] [] .nil
   ·cases e
 | range t x =>
   rw [hop] at e; simp only [evOp] at e
   split at e
   ·rename_i kt et _ n htt h1
    split at e
    ·rename_i ar es bs ck hk
     injection e with e; subst e
     obtain ⟨d, hd, _, hst⟩ := (hT t _ htt).agg
     simp only at hst; subst hst
     have hx := hg x _ h1
     generalize hxe : a.eval x = xx at hx
     cases hx with
     | mp _ r hr0 =>
       obtain ⟨_, r', ms, q1, q2, _⟩ := S.cont n 0 _ (name_pos S hr0) (hrd (n, 0, .maps ar es bs ck) (by simp))
       rw [hr0] at q1; injection q1 with q1; injection q1 with q1; injection q1 with q1; subst q1
       exact value (by simp [execOp, hop, hxe, run_range_map w t kt et r ms ck hd q2]) (Res.newIter S hnb hf0 ck .nilp .nilp hr0)
    ·cases e
   ·cases e
 | entry x =>
   rw [hop] at e; simp only [evOp] at e
   split at e
   ·rename_i n h1
    split at e
    ·rename_i m since seen c0 k v hk
     split at e
     ·rename_i ar es bs ck hk2
      injection e with e; subst e
      have hx := hg x _ h1
      generalize hxe : a.eval x = xx at hx
      cases hx with
      | it _ b hb =>
        have hnp := name_pos S hb
        obtain ⟨_, b', r, q1, q2, q3, q4, q5⟩ := S.cont n 0 _ hnp (hrd (n, 0, .iter m since seen c0 k v) (by simp))
        rw [hb] at q1; injection q1 with q1; injection q1 with q1; injection q1 with q1; injection q1 with q1; subst q1
        obtain ⟨_, r', ms, p1, p2, _, _, p5, p6⟩ := S.cont m 0 _ (name_pos S q5) (hrd (m, 0, .maps ar es bs ck) (by simp))
        rw [q5] at p1; injection p1 with p1; injection p1 with p1; injection p1 with p1; subst p1
        obtain ⟨j, ks, s1, s2, s3⟩ : ∃ j ks, keyOf k = some ks ∧ es[j]? = some (ks, v) ∧ bs[j]? = seen.getLast? := hs _ List.mem_cons_self
        obtain rfl : c0 = ck := hs (c0 = ck) (List.mem_cons_of_mem _ List.mem_cons_self)
        have hnd : bs.Nodup := hs _ (List.mem_cons_of_mem _ (List.mem_cons_of_mem _ List.mem_cons_self))
        have hj : j < ms.size := by rw [p5.1]; exact (List.getElem?_eq_some_iff.1 s2).1
        have he := p6 j hj _ s2
        have hbj : bs[j]? = some ms[j].born := by rw [← p5.2.2]; simp [hj]
        rw [hbj] at s3
        obtain ⟨pre, hpre⟩ : ∃ pre, seen = pre ++ [ms[j].born] := List.getLast?_eq_some_iff.1 s3.symm
        subst hpre
        have hrun := run_entry_at (P := P) w b r since pre.toArray ms c0 ms[j] (by simpa using q2) p2 (by simp) (by rw [p5.2.2]; exact hnd)
        have hkey : ms[j].key = keyVal .i64 ks := he.key.2
        refine value (x := .tuple #[ms[j].key, ms[j].val]) (w' := w) (by simp [execOp, hop, hxe, hrun]) (Res.of_pure S (.tup _ [ms[j].key, ms[j].val] (.cons _ _ _ _ (by rw [hkey]; exact keyOf_conv s1) (.cons _ _ _ _ he.val .nil))))
     ·cases e
    ·cases e
   ·cases e
 | nilCheck x =>
   rw [hop] at e; simp only [evOp] at e
   split at e
   ·rename_i n off h1
    simp only [pureOut, Option.some.injEq] at e; subst e
    have hx := hg x _ h1
    generalize hxe : a.eval x = xx at hx
    cases hx with
    | ptr _ _ b hb => exact value (x := .pointer (some ⟨b, off, none⟩)) (w' := w) (by simp [execOp, hop, hxe]) (Res.of_pure S (.ptr n off b hb))
   ·rename_i cs h1
    simp only [pureOut, Option.some.injEq] at e; subst e
    have hx := hg x _ h1
    generalize hxe : a.eval x = xx at hx
    cases hx with
    | rp _ ad us hb hsp hc hcr => exact value (x := .pointer (some ad)) (w' := w) (by simp [execOp, hop, hxe]) (Res.of_pure S (.rp cs ad us hb hsp hc hcr))
   ·rename_i n sz i off h1
    simp only [pureOut, Option.some.injEq] at e; subst e
    have hx := hg x _ h1
    generalize hxe : a.eval x = xx at hx
    cases hx with
    | vp _ _ _ b len cap _ hb => exact value (w' := w) (by simp [execOp, hop, hxe]) (Res.of_pure S (.vp n sz off b len cap i hb))
   ·rename_i f cap h1
    simp only [pureOut, Option.some.injEq] at e; subst e
    have hx := hg x _ h1
    generalize hxe : a.eval x = xx at hx
    cases hx with
    | fn _ _ us hl => exact value (w' := w) (by simp [execOp, hop, hxe]) (Res.of_pure S (.fn f cap us hl))
   ·cases e
 | call c =>
   rw [hop] at e; simp only [evOp] at e
   split at e
   ·rename_i b hcal
    obtain ⟨vs, h1, h2⟩ := Option.bind_eq_some_iff.1 e
    have hl := mapA_sound hg _ _ h1
    obtain ⟨y, w', h3, h4⟩ := evBuiltin_sound (P := P) hT S h2 hrd hs hnb hf0 hl o.type (c.args.map fun | .const _ => true | _ => false)
    refine value (x := y) (w' := w') ?_ h4
    have e2 : (c.args.toList.map a.eval).toArray = c.args.map a.eval := by apply Array.ext'; simp
    rw [e2] at h3
    simp only [execOp, hop, resolve, hcal, Sem.run_bind, Sem.run_pure, Result.andThen_ok, invoke]
    rw [show c.argTypes.toList.toArray = c.argTypes by simp] at h3
    exact h3
   ·rename_i fo hcal
    split at e
    ·rename_i f cap vs h1 h2
     obtain ⟨s, h3, h4⟩ := Option.bind_eq_some_iff.1 e
     have hl := mapA_sound hg _ _ h2
     have hfo := hg fo _ h1
     generalize hfe : a.eval fo = fv at hfo
     cases hfo with
     | fn _ _ us hcap =>
       obtain ⟨hfn, _, hcall⟩ := hΓ f s h3
       have hall := hl.append hcap
       refine wp_call (P := P) (R := fun x w' => Res mine ρ ro w nb (hput h out.up) out.val x w') hop hcal hfe (by apply Array.ext'; simp) hfn (hcall mine ρ ro h w _ _ hr nb out S hall h4 hrd hs hnb hf) hK
    ·cases e
   ·cases e
 | _ => rw [hop] at e; simp only [evOp] at e; cases e
end
end Go.Eng