/- The engine, part 10: cuts; 'evOp' is right. -/
import Derived.Test.YtmpaaanbahfmcaaEngI
import Derived.ChangeKeysEq
set_option linter.unusedSimpArgs false
set_option linter.unusedVariables false
namespace Go.Eng
section
variable {P : Program} {mine : Nat → Prop} {ρ : Env} {ro : Nat → Prop} {h : Heap} {w : World}

/-- An optional number as a value. -/
def OptV (n : Option Int) (v : Option Value) : Prop := match n, v with
  | none, none => True
  | some n, some (.int _ m) => m = n
  | _, _ => False

theorem run_bounds {isS : Bool} {len cap : Nat} {lo hi mx : Option Int} {vlo vhi vmx : Option Value} (h1 : OptV lo vlo) (h2 : OptV hi vhi) (h3 : OptV mx vmx) (hmh : mx.isSome = true → hi.isSome = true)
    (b0 : 0 ≤ lo.getD 0) (b1 : lo.getD 0 ≤ hi.getD len) (b2 : hi.getD len ≤ (mx.getD cap)) (b3 : mx.getD cap ≤ cap) :
    (Instr.sliceBounds isS len cap vlo vhi vmx).run P w = .ok ((lo.getD 0).toNat, (hi.getD len).toNat, (mx.getD cap).toNat) w := by
  have hb : ∀ (k : IntKind) (i : Int) (y : Nat) (code : BoundsCode), 0 ≤ i → i ≤ (y : Int) → (Instr.sliceBound (.int k i) y code).run P w = .ok i.toNat w := fun k i y code h0 h1 => run_sliceBound w k i y code h0 h1
  have tn : ∀ (i : Int), 0 ≤ i → (i.toNat : Int) = i := fun i hi => Int.toNat_of_nonneg hi
  unfold Instr.sliceBounds
  cases lo with
  | none =>
    cases vlo with
    | some _ => exact h1.elim
    | none =>
      cases hi with
      | none =>
        cases vhi with
        | some _ => exact h2.elim
        | none =>
          cases mx with
          | some _ => simp at hmh
          | none => cases vmx with
            | some _ => exact h3.elim
            | none => simp
      | some hi =>
        cases vhi with
        | none => exact h2.elim
        | some vh => cases vh <;> try exact h2.elim
                     rename_i kh hh
                     simp only [OptV] at h2; subst h2
                     simp only [Option.getD_none, Option.getD_some] at b0 b1 b2 b3
                     cases mx with
                     | none => cases vmx with
                       | some _ => exact h3.elim
                       | none => simp only [Option.getD_none] at b2 b3; simp [hb kh _ cap _ b1 b2]
                     | some m => cases vmx with
                       | none => exact h3.elim
                       | some vm => cases vm <;> try exact h3.elim
                                    rename_i km mm
                                    simp only [OptV] at h3; subst h3
                                    simp only [Option.getD_some] at b2 b3
                                    have q1 := fun code => hb kh hh mm.toNat code b1 (by rw [tn _ (by omega)]; exact b2)
                                    simp [hb km _ cap _ (by omega) b3, q1]
  | some lo =>
    cases vlo with
    | none => exact h1.elim
    | some vl =>
      cases vl <;> try exact h1.elim
      rename_i kl ll
      simp only [OptV] at h1; subst h1
      simp only [Option.getD_some] at b0 b1
      cases hi with
      | none =>
        cases vhi with
        | some _ => exact h2.elim
        | none =>
          cases mx with
          | some _ => simp at hmh
          | none => cases vmx with
            | some _ => exact h3.elim
            | none => simp only [Option.getD_none] at b1; simp [hb kl _ len _ b0 b1]
      | some hi =>
        cases vhi with
        | none => exact h2.elim
        | some vh =>
          cases vh <;> try exact h2.elim
          rename_i kh hh
          simp only [OptV] at h2; subst h2
          simp only [Option.getD_some] at b1 b2
          cases mx with
          | none => cases vmx with
            | some _ => exact h3.elim
            | none =>
              simp only [Option.getD_none] at b2
              have q1 := fun code => hb kl ll hh.toNat code b0 (by rw [tn _ (by omega)]; exact b1)
              simp [hb kh _ cap _ (by omega) b2, q1]
          | some m => cases vmx with
            | none => exact h3.elim
            | some vm =>
              cases vm <;> try exact h3.elim
              rename_i km mm
              simp only [OptV] at h3; subst h3
              simp only [Option.getD_some] at b2 b3
              have q1 := fun code => hb kl ll hh.toNat code b0 (by rw [tn _ (by omega)]; exact b1)
              have q2 := fun code => hb kh hh mm.toNat code (by omega) (by rw [tn _ (by omega)]; exact b2)
              simp [hb km _ cap _ (by omega) b3, q1, q2]

theorem evSlice_sound {T : Tab} (hT : TabOK P T) {t : Nat} {x : AV} {lo hi mx : Option Int} {out : Out} (e : evSlice T t x lo hi mx = some out) (hs : ∀ q ∈ out.sides, q) {v : Value} (hv : VRel ρ ro w x v) {vlo vhi vmx : Option Value}
    (h1 : OptV lo vlo) (h2 : OptV hi vhi) (h3 : OptV mx vmx) : out.up = [] ∧ ∃ y, (Instr.sliceAt t v vlo vhi vmx).run P w = .ok y w ∧ VRel ρ ro w out.val y := by
  unfold evSlice at e
  split at e
  · -- a string
    rename_i cells bytes zero s ht
    obtain ⟨d, hd, _, hst⟩ := (hT t _ ht).agg
    simp only at hst
    subst hst
    cases mx with
    | some _ => simp at e
    | none =>
      simp only [Option.some.injEq] at e
      subst e
      have b0 : 0 ≤ lo.getD 0 := hs _ (by simp)
      have b1 : lo.getD 0 ≤ hi.getD s.size := hs _ (by simp)
      have b2 : hi.getD s.size ≤ s.size := hs _ (by simp)
      cases vmx with
      | some _ => exact h3.elim
      | none =>
        have hb := run_bounds (P := P) (w := w) (isS := false) (len := s.size) (cap := s.size) (mx := none) (vmx := none) h1 h2 trivial (by simp) b0 b1 (by simpa using b2) (by simp)
        rw [hv.str_inv]
        refine ⟨rfl, .string (s.extract (lo.getD 0).toNat (hi.getD s.size).toNat), ?_, .str _⟩
        simp [Instr.sliceAt, run_underlying hd, Instr.slice, hb]
  · -- a slice that is only read
    rename_i cells bytes el zero sz n full f ht
    obtain ⟨d, hd, _, hst⟩ := (hT t _ ht).agg
    simp only at hst
    subst hst
    split at e
    · rename_i te hte
      simp only [Option.some.injEq] at e
      subst e
      have b0 : 0 ≤ lo.getD 0 := hs _ (by simp)
      have b1 : lo.getD 0 ≤ hi.getD n := hs _ (by simp)
      have b2 : hi.getD n ≤ n := hs _ (by simp)
      have b3 : mx.getD (hi.getD n) = hi.getD n := hs (mx.getD (hi.getD n) = hi.getD n) (by simp)
      have b4 : sz = te.cells := hs (sz = te.cells) (by simp)
      obtain ⟨ie, ze, hie, hse, _⟩ := (hT el te hte).info
      cases hv with
      | rs _ _ cap _ _ a vals hn hm hfull ha hl hc =>
        have hmh : mx.isSome = true → hi.isSome = true := hs (mx.isSome = true → hi.isSome = true) (by simp)
        · have hmx : mx.getD (cap : Int) = (mx.map fun _ => hi.getD n).getD cap := by
            cases mx with
            | none => rfl
            | some m => simpa using b3
          have hlem : hi.getD n ≤ mx.getD (cap : Int) := by
            cases mx with
            | none => simp only [Option.getD_none]; omega
            | some m => simp only [Option.getD_some] at b3 ⊢; omega
          have hmc : mx.getD (cap : Int) ≤ cap := by
            cases mx with
            | none => simp
            | some m => simp only [Option.getD_some] at b3 ⊢; omega
          have hb := run_bounds (P := P) (w := w) (isS := true) (len := n) (cap := cap) h1 h2 h3 hmh b0 b1 hlem hmc
          refine ⟨rfl, .slice (if (mx.getD (cap : Int)).toNat = (lo.getD 0).toNat then a else a.map (·.add ((lo.getD 0).toNat * sz))) ((hi.getD n).toNat - (lo.getD 0).toNat) ((mx.getD (cap : Int)).toNat - (lo.getD 0).toNat), ?_, ?_⟩
          · simp [Instr.sliceAt, run_underlying hd, Instr.slice, hb, sizeOf, typeInfo, hie, hse, b4]
          · refine .rs sz _ _ _ _ _ (fun i => vals ((lo.getD 0).toNat + i)) (by omega) (by omega) (fun hf => ?_) (fun h0 => ?_) (fun i hi => hl _ (by omega)) (fun i hi => hc _ (by omega))
            · cases mx with
              | none =>
                cases hi with
                | none => simp only at hf; simp only [Option.getD_none]; have := hfull hf; omega
                | some _ => simp at hf
              | some m =>
                simp only [Option.getD_some] at b3 ⊢
                rw [b3]
            · obtain ⟨ad, rfl, e2, e3, e4⟩ := ha (by omega)
              refine ⟨ad.add ((lo.getD 0).toNat * sz), by rw [if_neg (by omega)]; rfl, by rw [add_block]; exact e2, ?_, fun i hi j u hj => ?_⟩
              · unfold Addr.add; split
                · exact e3
                · rfl
              · rw [add_add _ _ _ e3, show (lo.getD 0).toNat * sz + (i * sz + j) = ((lo.getD 0).toNat + i) * sz + j by rw [Nat.add_mul]; omega]
                exact e4 _ (by omega) j u hj
    · cases e
  · cases e

theorem run_len_slice {t ty e : Nat} (ht : P.underlying t = some (.slice e)) (a : Option Addr) (n c : Nat) : (Builtin.len_ #[t] ty #[.slice a n c]).run P w = .ok (.int .i64 n) w := by
  simp [Builtin.len_, run_underlying ht, goInt]
theorem run_len_string {t ty : Nat} (ht : P.underlying t = some .string) (s : ByteArray) : (Builtin.len_ #[t] ty #[.string s]).run P w = .ok (.int .i64 s.size) w := by
  simp [Builtin.len_, run_underlying ht, goInt]

theorem evBuiltin_sound {T : Tab} (hT : TabOK P T) (S : Sim mine ρ ro h w) {ts : List Nat} {b : Builtin} {hr : Rd} {vs : List AV} {nb : Nat} {out : Out} (e : evBuiltin T ts b hr vs nb = some out) (hrd : ∀ y ∈ out.rd, hget h y.1 y.2.1 = some y.2.2) (hs : ∀ q ∈ out.sides, q)
    (hnb : 0 < nb) (hf : ρ nb = none) {xs : List Value} (hx : LRel ρ ro w vs xs) (ty : Nat) (cs : Array Bool) :
    ∃ y w', (builtin b ts.toArray ty cs xs.toArray).run P w = .ok (.value y) w' ∧ Res mine ρ ro w nb (hput h out.up) out.val y w' := by
  unfold evBuiltin at e
  split at e
  · -- len
    rename_i x
    cases hx with
    | cons _ _ u us hv ht0 =>
      cases ht0
      split at e
      · rename_i t
        split at e
        · rename_i ht
          obtain ⟨d, hd, _, hst⟩ := (hT t _ ht).agg
          simp only at hst; subst hst
          simp only [pureOut, Option.some.injEq] at e
          subst e
          cases hv with
          | rs _ _ cap _ _ a vals hn hm hfull ha hl hc => exact ⟨_, w, by simp [builtin, run_len_slice hd], Res.of_pure S (.int _ _)⟩
        · rename_i ht
          obtain ⟨d, hd, _, hst⟩ := (hT t _ ht).agg
          simp only at hst; subst hst
          simp only [pureOut, Option.some.injEq] at e
          subst e
          cases hv
          exact ⟨_, w, by simp [builtin, run_len_slice hd], Res.of_pure S (.int _ _)⟩
        · rename_i ht
          obtain ⟨d, hd, _, hst⟩ := (hT t _ ht).agg
          simp only at hst; subst hst
          simp only [pureOut, Option.some.injEq] at e
          subst e
          cases hv
          exact ⟨_, w, by simp [builtin, run_len_string hd], Res.of_pure S (.int _ _)⟩
        · rename_i n ht
          obtain ⟨d, hd, _, hst⟩ := (hT t _ ht).agg
          simp only at hst; subst hst
          split at e
          · rename_i sz e' k f hk
            simp only [Option.some.injEq] at e
            subst e
            cases hv with
            | vs _ _ hj hsl =>
              obtain ⟨a, l, c, rfl⟩ := hsl
              obtain ⟨_, x', xs, c1, c2, c3, c4, c5⟩ := S.cont n 0 _ (name_pos S hj) (hrd (n, 0, .vec sz e' k f) (by simp))
              rw [hj] at c1
              injection c1 with c1
              subst c1
              have hlk : l = k := by
                rcases c3.2 with ⟨e1, e2⟩ | ⟨gg, cap, cur, e1, _⟩
                · injection e1 with _ e1 _; omega
                · injection e1
              subst hlk
              exact ⟨_, w, by simp [builtin, run_len_slice hd], Res.of_pure S (.int _ _)⟩
          · cases e
        · cases e
      · cases e
  · -- max
    simp only [pureOut, Option.some.injEq] at e
    subst e
    rename_i k x k' y
    cases hx with
    | cons _ _ u us hv ht0 =>
      cases ht0 with
      | cons _ _ u' us' hv' ht1 =>
        cases ht1
        rw [hv.int_inv, hv'.int_inv]
        refine ⟨.int k (mx2 x y), w, ?_, Res.of_pure S (.int _ _)⟩
        simp [builtin, Builtin.max_, Builtin.max2, mx2]
  · -- min
    simp only [pureOut, Option.some.injEq] at e
    subst e
    rename_i k x k' y
    cases hx with
    | cons _ _ u us hv ht0 =>
      cases ht0 with
      | cons _ _ u' us' hv' ht1 =>
        cases ht1
        rw [hv.int_inv, hv'.int_inv]
        refine ⟨.int k (mn2 x y), w, ?_, Res.of_pure S (.int _ _)⟩
        simp [builtin, Builtin.min_, Builtin.min2, mn2]
  · -- append
    cases hx with
    | cons _ _ u us hv ht0 =>
      cases ht0 with
      | cons _ _ u' us' hv' ht1 =>
        cases ht1
        obtain ⟨y, w', h1, h2⟩ := evAppend_sound (P := P) hT S e hrd hs hnb hf hv hv' ty
        exact ⟨y, w', by simp [builtin, h1], h2⟩
  · cases e

/-- Every operation is as 'evOp' says. -/
theorem bif_some' {α : Type} {c : Bool} {x : Option α} {y : α} (e : (bif c then x else none) = some y) : c = true ∧ x = some y := by
  cases c with
  | true => exact ⟨rfl, e⟩
  | false => cases e
theorem VRel.agg_inv {cs : List AV} {x : Value} (hv : VRel ρ ro w (.agg cs) x) : ∃ us, x = .agg us.toArray ∧ CRel ρ ro w cs us := by
  cases hv with
  | agg _ us h => exact ⟨us, rfl, h⟩

theorem eqF_sound {T : Tab} (hT : TabOK P T) {ty : Nat} {c d : AV} {b : Bool} (e : eqF T ty c d = some b) {u v : Value} (hu : VRel ρ ro w c u) (hv : VRel ρ ro w d v) (n : Nat) : (Op.equalIn (n + 1) ty u v).run P w = .ok b w ∧ ∃ ti, tget T ty = some ti ∧ ti.und.isAgg = false := by
  unfold eqF at e
  split at e
  · rename_i k0 _ k a k' a' ht
    cases hu; cases hv
    obtain ⟨hk, e2⟩ := bif_some' e
    have hk : k = k' := by simpa using hk
    subst hk
    injection e2 with e2; subst e2
    obtain ⟨d, hd, _, hst⟩ := (hT ty _ ht).agg
    simp only at hst; subst hst
    exact ⟨run_equalIn_int w n ty k _ a a' hd, _, ht, rfl⟩
  · rename_i ht
    cases hu; cases hv
    injection e with e; subst e
    obtain ⟨d, hd, _, hst⟩ := (hT ty _ ht).agg
    simp only at hst; subst hst
    exact ⟨run_equalIn_bool w n ty _ _ hd, _, ht, rfl⟩
  · rename_i ht
    cases hu; cases hv
    injection e with e; subst e
    obtain ⟨d, hd, _, hst⟩ := (hT ty _ ht).agg
    simp only at hst; subst hst
    exact ⟨run_equalIn_string w n ty _ _ hd, _, ht, rfl⟩
  · cases e

theorem arrOf_some {c : AV} {k : Nat} {f : Nat → AV} (h : arrOf c = some (k, f)) : c = .arr k f := by
  unfold arrOf at h
  split at h
  · injection h with h; injection h with h1 h2; subst h1; subst h2; rfl
  · cases h
theorem arrOf_none {c : AV} (h : arrOf c = none) : ∀ k f, c ≠ .arr k f := by
  rintro k f rfl
  simp [arrOf] at h

theorem eqItems_sound {e : Nat} {A B : Array Value} {f g : Nat → AV} (m : Nat) (p : Nat → Bool) (he : (isAgg e).run P w = .ok false w) : ∀ (is : List Nat),
    (∀ j ∈ is, ∃ u v, A[j]? = some u ∧ B[j]? = some v ∧ (Op.equalIn (m + 1) e u v).run P w = .ok (p j) w) → (Op.eqItems (m + 1) e 1 A B is).run P w = .ok (is.all p) w
  | [], _ => by simp [Op.eqItems]
  | j :: is, h => by
    obtain ⟨u, v, h1, h2, h3⟩ := h j List.mem_cons_self
    have p1 : (part e A (j * 1)).run P w = .ok u w := by unfold part; simp [he, h1]
    have p2 : (part e B (j * 1)).run P w = .ok v w := by unfold part; simp [he, h2]
    have ih := eqItems_sound (f := f) (g := g) m p he is fun k hk => h k (List.mem_cons_of_mem _ hk)
    simp only [Op.eqItems, Sem.run_bind, p1, p2, h3, Result.andThen_ok]
    cases hp : p j with
    | false => simp [hp]
    | true => simpa [hp] using ih

theorem eqArr_sound {T : Tab} (hT : TabOK P T) {ty k : Nat} {f g : Nat → AV} {b : Bool} {ps : List Prop} (e : eqArr T ty k f g = some (b, ps)) (hs : ∀ q ∈ ps, q) {as bs : List Value} (ha : as.length = k) (hb : bs.length = k)
    (ra : ∀ i u, as[i]? = some u → VRel ρ ro w (f i) u) (rb : ∀ i u, bs[i]? = some u → VRel ρ ro w (g i) u) (n : Nat) : (Op.equalIn (n + 2) ty (.agg as.toArray) (.agg bs.toArray)).run P w = .ok b w ∧ (isAgg ty).run P w = .ok true w := by
  unfold eqArr at e
  split at e
  · rename_i cells bytes m el zero ht
    obtain ⟨hk, e⟩ := bif_some' e
    have hk : m = k := by simpa using hk
    subst hk
    obtain ⟨d, hd, _, hst⟩ := (hT ty _ ht).agg
    simp only at hst; subst hst
    have hag : (isAgg ty).run P w = .ok true w := by unfold isAgg; rw [Sem.run_bind, run_underlying hd w]; simp
    refine ⟨?_, hag⟩
    have key : ∀ (ti : TI) (p : Nat → Bool), tget T el = some ti → ti.und.isAgg = false → (∀ j, j < m → ∀ u v, VRel ρ ro w (f j) u → VRel ρ ro w (g j) v → (Op.equalIn (n + 1) el u v).run P w = .ok (p j) w) →
        (Op.equalIn (n + 2) ty (.agg as.toArray) (.agg bs.toArray)).run P w = .ok ((List.range m).all p) w := by
      intro ti p hti hna hp
      obtain ⟨ie, ze, hie, hse, _⟩ := (hT el ti hti).info
      obtain ⟨de, hde, hagg, _⟩ := (hT el ti hti).agg
      have h1 := (hT el ti hti).one hna
      have hae : (isAgg el).run P w = .ok false w := by
        unfold isAgg
        rw [Sem.run_bind, run_underlying hde w, ← hna, ← hagg]
        cases de <;> simp
      have hcell : P.cellsOf el = 1 := by simp [Program.cellsOf, hie, hse, h1]
      rw [run_equalIn_array w (n + 1) _ _ hd hie, hcell]
      refine eqItems_sound (f := f) (g := g) n p hae _ fun j hj => ?_
      have hj := List.mem_range.1 hj
      obtain ⟨u, hu⟩ : ∃ u, as[j]? = some u := ⟨as[j]'(by omega), by simp [ha, hj]⟩
      obtain ⟨v, hv⟩ : ∃ v, bs[j]? = some v := ⟨bs[j]'(by omega), by simp [hb, hj]⟩
      exact ⟨u, v, by simpa using hu, by simpa using hv, hp j hj u v (ra j u hu) (rb j v hv)⟩
    split at e
    · rename_i hte
      injection e with e; injection e with e1 e2; subst e1; subst e2
      have hs := hs _ List.mem_cons_self
      refine key _ _ hte rfl fun j hj u v hu hv => ?_
      obtain ⟨q, hq1, hq2⟩ := hs j hj
      rw [hq1] at hu
      rw [hq2] at hv
      have := hu.int_inv
      subst this
      have := hv.int_inv
      subst this
      obtain ⟨d, hd, _, hst⟩ := (hT el _ hte).agg
      simp only at hst; subst hst
      exact run_equalIn_int w n el q _ _ _ hd
    · rename_i hte
      injection e with e; injection e with e1 e2; subst e1; subst e2
      have hs := hs _ List.mem_cons_self
      refine key _ _ hte rfl fun j hj u v hu hv => ?_
      obtain ⟨hq1, hq2⟩ := hs j hj
      rw [hq1] at hu
      rw [hq2] at hv
      have := hu.bool_inv
      subst this
      have := hv.bool_inv
      subst this
      obtain ⟨d, hd, _, hst⟩ := (hT el _ hte).agg
      simp only at hst; subst hst
      exact run_equalIn_bool w n el _ _ hd
    · cases e
  · cases e

theorem eqFs_sound {T : Tab} (hT : TabOK P T) (xs ys : Array Value) (n : Nat) : ∀ (fl : List Field) (fs : List (Nat × Nat × Nat)) (i : Nat) (cs ds : List AV) (b : Bool) (ps : List Prop),
    (∀ (j o ty sz : Nat), fs[j]? = some (o, ty, sz) → ∃ f : Field, fl[j]? = some f ∧ f.offset = o ∧ f.type = ty ∧ ∃ i, P.info? ty = some i ∧ i.size = sz) → fl.length = fs.length → (∀ f ∈ fl, f.name ≠ "_") →
    CRel ρ ro w cs (xs.toList.drop i) → CRel ρ ro w ds (ys.toList.drop i) → eqFs T i fs cs ds = some (b, ps) → (∀ q ∈ ps, q) → (Op.eqFields (n + 2) xs ys fl).run P w = .ok b w
  | [], [], i, cs, ds, b, ps, _, _, _, hc, hd, e, _ => by
    cases cs <;> cases ds <;> simp only [eqFs, Option.some.injEq, reduceCtorEq, Prod.mk.injEq] at e
    obtain ⟨rfl, _⟩ := e
    simp [Op.eqFields]
  | [], _ :: _, _, _, _, _, _, _, hl, _, _, _, _, _ => by simp at hl
  | _ :: _, [], _, _, _, _, _, _, hl, _, _, _, _, _ => by simp at hl
  | f :: fl, (o, ty, sz) :: fs, i, cs, ds, b, ps, hf, hl, hn, hc, hd, e, hs => by
    cases cs with
    | nil => simp [eqFs] at e
    | cons c cs =>
      cases ds with
      | nil => simp [eqFs] at e
      | cons d ds =>
        have hnf := hn f List.mem_cons_self
        obtain ⟨f', k1, k2, k3, inf, k4, k5⟩ := hf 0 o ty sz rfl
        simp at k1; subst k1
        simp only [eqFs] at e
        split at e
        · rename_i k fa k' ga hca hda
          have hca := arrOf_some hca
          have hda := arrOf_some hda
          subst hca; subst hda
          obtain ⟨ho, e⟩ := bif_some' e
          simp only [Bool.and_eq_true, beq_iff_eq] at ho
          split at e
          · rename_i x ps1 y qs hx hy
            injection e with e; injection e with e1 e2; subst e1; subst e2
            obtain ⟨⟨ho1, ho2⟩, ho3⟩ := ho
            subst ho3
            generalize hlx : xs.toList.drop i = lx at hc
            generalize hly : ys.toList.drop i = ly at hd
            cases hc with
            | arr _ _ _ as us ha1 ha2 ha3 ha4 =>
              cases hd with
              | arr _ _ _ bs vs hb1 hb2 hb3 hb4 =>
                obtain ⟨q1, q2⟩ := eqArr_sound (P := P) hT hx (fun q hq => hs q (List.mem_append_left _ hq)) ha1 hb1 ha2 hb2 n
                have sub : ∀ {zs : Array Value} {l r : List Value}, zs.toList.drop i = l ++ r → l.length = k → (part f.type zs f.offset).run P w = .ok (.agg l.toArray) w ∧ zs.toList.drop (i + k) = r := by
                  intro zs l r h hlen
                  refine ⟨?_, by rw [← List.drop_drop, h, ← hlen]; simp⟩
                  have hex : (zs.extract i (i + k)) = l.toArray := by
                    apply Array.ext'
                    rw [Array.toList_extract]
                    show (zs.toList.extract i (i + k)) = l
                    rw [List.extract_eq_take_drop, Nat.add_sub_cancel_left, h, ← hlen]
                    simp
                  unfold part
                  simp [q2, sizeOf, typeInfo, k3, k4, k5, ho2, k2, ho1, hex]
                obtain ⟨p1, p2⟩ := sub hlx ha1
                obtain ⟨p3, p4⟩ := sub hly hb1
                have ih := eqFs_sound hT xs ys n fl fs (i + k) cs ds y qs (fun j o ty sz hj => by simpa using hf (j + 1) o ty sz (by simpa using hj)) (by simpa using hl) (fun f hf => hn f (List.mem_cons_of_mem _ hf)) (by rw [p2]; exact ha4) (by rw [p4]; exact hb4) hy (fun q hq => hs q (List.mem_append_right _ hq))
                rw [← k3] at q1
                simp only [Op.eqFields, ne_eq, hnf, not_false_eq_true, if_true, Sem.run_bind, p1, p3, q1, Result.andThen_ok]
                cases x with
                | false => simp
                | true => simpa using ih
              | cons _ _ u us h h1 t => cases h
            | cons _ _ u us h h1 t => cases h
          · cases e
        · rename_i hna0
          obtain ⟨ho, e⟩ := bif_some' e
          simp only [Bool.and_eq_true, beq_iff_eq] at ho
          split at e
          · rename_i x y qs hx hy
            injection e with e; injection e with e1 e2; subst e1; subst e2
            have out : ∀ {c : AV} {cs : List AV} {l : List Value}, CRel ρ ro w (c :: cs) l → (∀ k g, c ≠ .arr k g) → ∃ u us, l = u :: us ∧ VRel ρ ro w c u ∧ CRel ρ ro w cs us := by
              intro c cs l h hna
              cases h with
              | cons _ _ u us h h1 t => exact ⟨u, us, rfl, h, t⟩
              | arr k g _ _ _ _ _ _ _ => exact absurd rfl (hna k g)
            have hna : (∀ k g, c ≠ .arr k g) ∧ ∀ k g, d ≠ .arr k g := by
              unfold eqF at hx
              split at hx <;> first | (cases hx; done) | (constructor <;> intro k g h <;> cases h)
            obtain ⟨u, us, e1, hu, hus⟩ := out hc hna.1
            obtain ⟨v, vs, e2, hv, hvs⟩ := out hd hna.2
            obtain ⟨q1, ti, q2, q3⟩ := eqF_sound hT hx hu hv (n + 1)
            have d1 : ∀ {l : List Value} {u : Value} {us : List Value}, l.drop i = u :: us → l[i]? = some u ∧ l.drop (i + 1) = us := by
              intro l u us h
              constructor
              · have : (l.drop i)[0]? = some u := by rw [h]; rfl
                simpa using this
              · rw [← List.drop_drop, h]; rfl
            obtain ⟨g1, g2⟩ := d1 e1
            obtain ⟨g3, g4⟩ := d1 e2
            obtain ⟨dd, hdd, hagg, _⟩ := (hT ty _ q2).agg
            have hag : (isAgg f.type).run P w = .ok false w := by
              unfold isAgg
              rw [k3, Sem.run_bind, run_underlying hdd w, ← q3, ← hagg]
              cases dd <;> simp
            have p1 : (part f.type xs f.offset).run P w = .ok u w := by
              have g1' : xs[i]? = some u := by simpa using g1
              rw [k2, ho.1]; unfold part; simp [hag, g1']
            have p2 : (part f.type ys f.offset).run P w = .ok v w := by
              have g3' : ys[i]? = some v := by simpa using g3
              rw [k2, ho.1]; unfold part; simp [hag, g3']
            have ih := eqFs_sound hT xs ys n fl fs (i + 1) cs ds y qs (fun j o ty sz hj => by simpa using hf (j + 1) o ty sz (by simpa using hj)) (by simpa using hl) (fun f hf => hn f (List.mem_cons_of_mem _ hf)) (by rw [g2]; exact hus) (by rw [g4]; exact hvs) hy hs
            rw [← k3] at q1
            simp only [Op.eqFields, ne_eq, hnf, not_false_eq_true, if_true, Sem.run_bind, p1, p2, q1, Result.andThen_ok]
            cases x with
            | false => simp
            | true => simpa using ih
          · cases e

theorem evIndex_sound {T : Tab} (hT : TabOK P T) {t : Nat} {x : AV} {k : IntKind} {i : Int} {out : Out} (e : evIndex T t x i = some out) (hs : ∀ q ∈ out.sides, q) {v : Value} (hv : VRel ρ ro w x v) :
    out.up = [] ∧ out.rd = [] ∧ ∃ y, (Instr.index t v (.int k i)).run P w = .ok y w ∧ VRel ρ ro w out.val y := by
  unfold evIndex at e
  split at e
  · rename_i cells bytes n el zero m f ht
    split at e
    · rename_i te hte
      obtain ⟨hq, e⟩ := bif_some' e
      simp only [Bool.and_eq_true, beq_iff_eq, Bool.not_eq_true'] at hq
      injection e with e; subst e
      obtain ⟨d, hd, _, hst⟩ := (hT t _ ht).agg
      simp only at hst; subst hst
      obtain ⟨ie, ze, hie, hse, _⟩ := (hT el te hte).info
      obtain ⟨de, hde, hagg, _⟩ := (hT el te hte).agg
      have hae : (isAgg el).run P w = .ok false w := by
        unfold isAgg
        rw [Sem.run_bind, run_underlying hde w, ← hq.2, ← hagg]
        cases de <;> simp
      have h0 : 0 ≤ i := hs (0 ≤ i) (by simp)
      have hlt : i < (n : Int) := hs (i < (n : Int)) (by simp)
      refine ⟨rfl, rfl, ?_⟩
      cases hv with
      | agg _ us hc =>
        cases hc with
        | arr _ _ _ as us ha1 ha2 ha3 ha4 =>
          cases ha4
          have hm : m = n := hq.1.1
          obtain ⟨u, hu⟩ : ∃ u, as[i.toNat]? = some u := ⟨as[i.toNat]'(by omega), by simp⟩
          refine ⟨u, ?_, ha2 _ _ hu⟩
          simp [Instr.index, asIntOf, run_underlying hd, h0, hlt, sizeOf, typeInfo, hie, hse, hq.1.2, part, hae, hu]
        | cons _ _ u us h h1 t => cases h
    · cases e
  · rename_i cells bytes zero s ht
    injection e with e; subst e
    obtain ⟨d, hd, _, hst⟩ := (hT t _ ht).agg
    simp only at hst; subst hst
    have := hv.str_inv
    subst this
    have h0 : 0 ≤ i := hs (0 ≤ i) (by simp)
    have hlt : i < (s.size : Int) := hs (i < (s.size : Int)) (by simp)
    have hlt' : i.toNat < s.size := by omega
    refine ⟨rfl, rfl, .int .u8 (bt s i), ?_, .int _ _⟩
    simp [Instr.index, asIntOf, run_underlying hd, h0, bt, hlt']
  · cases e

theorem evEq_sound {T : Tab} (hT : TabOK P T) {op : BinOp} {t : Nat} {cs ds : List AV} {out : Out} (e : evEq T op t cs ds = some out) (hs : ∀ q ∈ out.sides, q) {us vs : List Value} (hu : CRel ρ ro w cs us) (hv : CRel ρ ro w ds vs) (x y : Operand) :
    out.rd = [] ∧ (eqGuard op t x y (.agg us.toArray) (.agg vs.toArray)).run P w = .ok () w ∧ out.up = [] ∧ ∃ z, (binOp op t (.agg us.toArray) (.agg vs.toArray)).run P w = .ok z w ∧ VRel ρ ro w out.val z := by
  unfold evEq at e
  split at e
  · rename_i fs _ ht
    obtain ⟨d, hd, _, fields, rfl, hfl, hmap, hst, hgd, hnm⟩ := (hT t _ ht).agg
    have hfo : P.fieldsOf t = fields := by simp [Program.fieldsOf, hd]
    have hlen : fields.toList.length = fs.length := by
      have := congrArg (Option.map List.length) hmap
      simp only [Option.map_some, List.length_map] at this
      have h2 : ∀ (l : List Field) (r : List (Nat × Nat)), l.mapM (fun f => (P.info? f.type).map fun i => (f.offset, i.size)) = some r → r.length = l.length := by
        intro l
        induction l with
        | nil => intro r h; simp at h; subst h; rfl
        | cons a l ih =>
          intro r h
          rw [List.mapM_cons] at h
          simp only [bind, Option.bind_eq_some_iff, pure, Option.some.injEq] at h
          obtain ⟨p, _, q, h3, rfl⟩ := h
          simp [ih q h3]
      have := h2 _ _ hmap
      simpa using this.symm
    have go : ∀ b ps, eqFs T 0 fs cs ds = some (b, ps) → (∀ q ∈ ps, q) → (Op.equalIn 10000 t (.agg us.toArray) (.agg vs.toArray)).run P w = .ok b w := by
      intro b ps hb hps
      rw [run_equalIn_agg w 9999 t _ _ (by rw [hfo]; exact hd) hst, hfo]
      exact eqFs_sound hT us.toArray vs.toArray 9997 fields.toList fs 0 cs ds b ps (fun j o ty sz hj => by
        obtain ⟨f, k1, k2, k3, i, k4, k5, _⟩ := hfl j o ty sz hj
        exact ⟨f, by simpa using k1, k2, k3, i, k4, k5⟩) hlen hnm (by simpa using hu) (by simpa using hv) hb hps
    split at e
    · rename_i b ps hb
      simp only [Option.some.injEq] at e; subst e
      exact ⟨rfl, run_eqGuard_agg w _ t x y _ _ hgd, rfl, .bool b, by rw [run_eql_struct, go b ps hb hs]; rfl, .bool b⟩
    · rename_i b ps hb
      simp only [Option.some.injEq] at e; subst e
      exact ⟨rfl, run_eqGuard_agg w _ t x y _ _ hgd, rfl, .bool (!b), by rw [run_neq_struct, go b ps hb hs]; rfl, .bool (!b)⟩
    · cases e
  · cases e

theorem evOp_sound {T : Tab} (hT : TabOK P T) {Γ : Specs} (hΓ : SpecsOK P Γ) (S : Sim mine ρ ro h w) {o : Oper} {a : Act} {g : Operand → Option AV} (hg : ∀ x v, g x = some v → VRel ρ ro w v (a.eval x)) {hr : Rd} {nb : Nat} {out : Out}
    (e : evOp T Γ o.op g hr nb = some out) (hrd : ∀ y ∈ out.rd, hget h y.1 y.2.1 = some y.2.2) (hs : ∀ q ∈ out.sides, q) (hnb : 0 < nb) (hf : ∀ n, nb ≤ n → n < nb + 8 → ρ n = none) {K : Act → World → Prop} {Q : Exit → Act → World → Prop}
    (hK : ∀ x w', Res mine ρ ro w nb (hput h out.up) out.val x w' → K (a.put o.dst x) w') : o.wp P a w K Q := by
  have hf0 : ρ nb = none := hf nb (Nat.le_refl _) (by omega)
  have value : ∀ {x : Value} {w' : World}, (execOp a.eval o).run P w = .ok (.value x) w' → Res mine ρ ro w nb (hput h out.up) out.val x w' → o.wp P a w K Q := fun e r => wp_value e (hK _ _ r)
  cases hop : o.op with
  | move x =>
    rw [hop] at e; simp only [evOp] at e
    obtain ⟨v, h1, h2⟩ := Option.bind_eq_some_iff.1 e
    simp only [pureOut, Option.some.injEq] at h2; subst h2
    exact value (by simp [execOp, hop]) (Res.of_pure S (hg x v h1))
  | assign x =>
    rw [hop] at e; simp only [evOp] at e
    obtain ⟨v, h1, h2⟩ := Option.bind_eq_some_iff.1 e
    simp only [pureOut, Option.some.injEq] at h2; subst h2
    exact value (by simp [execOp, hop]) (Res.of_pure S (hg x v h1))
  | alloc el =>
    rw [hop] at e; simp only [evOp] at e
    obtain ⟨ti, h1, h2⟩ := Option.bind_eq_some_iff.1 e
    simp only [Option.some.injEq] at h2; subst h2
    obtain ⟨ie, ze, hie, hse, hbe, hze, hzc⟩ := (hT el ti h1).info
    refine value (x := .pointer (some ⟨w.heap.size, 0, none⟩)) (w' := w.alloc (.cells ze.cells el)) ?_ (Res.new S hnb hf0 (hzc ρ ro w) el)
    simp [execOp, hop, Instr.alloc, run_zero hie hze, newVar, newRow]
  | box el x =>
    rw [hop] at e; simp only [evOp] at e
    obtain ⟨v, h1, h2⟩ := Option.bind_eq_some_iff.1 e
    cases hp : v.plain with
    | false => simp [hp] at h2
    | true =>
      simp only [hp, cond_true, Option.some.injEq] at h2; subst h2
      have hv := (hg x v h1).cells hp
      refine value (x := .pointer (some ⟨w.heap.size, 0, none⟩)) (w' := w.alloc (.cells (a.eval x).cells el)) ?_ (Res.new S hnb hf0 hv el)
      simp [execOp, hop, Instr.box, newVar, newRow]
  | load t p =>
    rw [hop] at e; simp only [evOp] at e
    obtain ⟨v, h1, h2⟩ := Option.bind_eq_some_iff.1 e
    obtain ⟨hu, y, h3, h4⟩ := evLoad_sound (P := P) hT S h2 hrd hs (hg p v h1)
    refine value (x := y) (w' := w) (by simp [execOp, hop, h3]) ?_
    rw [hu]
    exact Res.of_pure S h4
  | store t p x =>
    rw [hop] at e; simp only [evOp] at e
    obtain ⟨pv, xv, h1, h2, h3⟩ : ∃ pv xv, g p = some pv ∧ g x = some xv ∧ evStore T hr t pv xv = some out := by
      split at e
      · rename_i pv xv h1 h2; exact ⟨pv, xv, h1, h2, e⟩
      · cases e
    have hp := hg p pv h1
    have hx := hg x xv h2
    have fin : ∀ w', (Instr.storeAt t (a.eval p) (a.eval x)).run P w = .ok () w' → Sim mine ρ ro (hput h out.up) w' → Grow ρ ρ ro ro w w' → Step mine w w' → out.val = .tup [] → o.wp P a w K Q := by
      intro w' hr s gr st hval
      refine wp_skip' (w' := w') (by simp [execOp, hop, hr]) (hK _ _ ?_)
      refine ⟨ρ, ro, gr.m, fun _ hn => absurd rfl hn, s, ?_, st⟩
      rw [hval]
      exact .tup [] [] .nil
    unfold evStore at h3
    cases htt : tget T t with
    | none => simp [htt] at h3
    | some ti =>
      have hti := hT t ti htt
      simp only [htt] at h3
      generalize hpe : a.eval p = pp at hp fin
      cases hp with
      | ptr n off b hb =>
        simp only at h3
        obtain ⟨r, h4, h5⟩ := Option.bind_eq_some_iff.1 h3
        cases hq : (xv.plain && widthC r.1 == ti.cells && widthC xv.cells == ti.cells && sameKeys r.2 (spread n off xv.cells)) with
        | false => simp [hq] at h5
        | true =>
          simp only [hq, cond_true, Option.some.injEq] at h5
          subst h5
          simp only [Bool.and_eq_true, beq_iff_eq] at hq
          obtain ⟨w', k1, k2, k3, k4⟩ := evStore_ptr (P := P) S hb hti h4 hrd hx hq.1.1.1 hq.1.2 hq.2
          exact fin w' k1 k2 k3 k4 rfl
      | pe n off b i hb =>
        simp only at h3
        split at h3
        · rename_i k f hk
          cases hq : (xv.one && ti.cells == 1 && !ti.und.isAgg) with
          | false => simp [hq] at h3
          | true =>
            simp only [hq, cond_true, Option.some.injEq] at h3
            subst h3
            simp only [Bool.and_eq_true, beq_iff_eq] at hq
            obtain ⟨w', k1, k2, k3, k4⟩ := evStore_pe (P := P) S hb (hrd (n, off, .arr k f) (by simp)) (hs (0 ≤ i) (by simp)) (hs (i < (k : Int)) (by simp)) hti hq.1.2 hx hq.1.1
            exact fin w' k1 k2 k3 k4 rfl
        · cases h3
      | vp n sz off b len cap i hb =>
        simp only at h3
        split at h3
        · rename_i sz' e' k f hk
          obtain ⟨cs, h4, h5⟩ := Option.bind_eq_some_iff.1 h3
          obtain ⟨x', h6, rfl⟩ := Option.map_eq_some_iff.1 h5
          cases hpl : xv.plain with
          | false => simp [hpl] at h4
          | true =>
            simp only [hpl, cond_true] at h4
            have hsz : sz = sz' := hs (sz = sz') (by simp)
            subst hsz
            obtain ⟨w', k1, k2, k3, k4⟩ := evStore_vp (P := P) S hb (hrd (n, 0, .vec sz e' k f) (by simp)) (hs (0 ≤ i) (by simp)) (hs (i < (k : Int)) (by simp)) hti hx hpl (hs (widthC xv.cells = ti.cells) (by simp)) h4 h6
            exact fin w' k1 k2 k3 k4 rfl
        · cases h3
      | _ => simp at h3
  | fieldAddr t p j =>
    rw [hop] at e; simp only [evOp] at e
    obtain ⟨v, h1, h2⟩ := Option.bind_eq_some_iff.1 e
    obtain ⟨hu, y, h3, h4⟩ := evField_sound (P := P) hT h2 (hg p v h1)
    refine value (x := y) (w' := w) (by simp [execOp, hop, h3]) ?_
    rw [hu]
    exact Res.of_pure S h4
  | field t x j =>
    rw [hop] at e; simp only [evOp] at e
    obtain ⟨v, h1, h2⟩ := Option.bind_eq_some_iff.1 e
    obtain ⟨hu, y, h3, h4⟩ := evValField_sound (P := P) hT h2 (hg x v h1)
    refine value (x := y) (w' := w) (by simp [execOp, hop, h3]) ?_
    rw [hu]
    exact Res.of_pure S h4
  | build t ps =>
    rw [hop] at e; simp only [evOp] at e
    obtain ⟨vs, h1, h2⟩ := Option.bind_eq_some_iff.1 e
    obtain ⟨k1, k2⟩ := mapP_sound hg _ _ h1
    obtain ⟨hu, y, h3, h4⟩ := evBuild_sound (P := P) hT h2 (qs := ps.toList.map fun x => (x.1, a.eval x.2)) (by simp [k1]) k2
    refine value (x := y) (w' := w) ?_ ?_
    · have : (ps.map fun (i, x) => (i, a.eval x)) = (ps.toList.map fun x => (x.1, a.eval x.2)).toArray := by
        apply Array.ext'; simp
      simp only [execOp, hop, this, Sem.run_bind, h3, Result.andThen_ok, Sem.run_pure]
    · rw [hu]; exact Res.of_pure S h4
  | buildSlice t n ps =>
    rw [hop] at e; simp only [evOp] at e
    obtain ⟨vs, h1, h2⟩ := Option.bind_eq_some_iff.1 e
    obtain ⟨k1, k2⟩ := mapP_sound hg _ _ h1
    obtain ⟨y, w', h3, h4⟩ := evLit_sound (P := P) hT S h2 hnb hf0 (qs := ps.toList.map fun x => (x.1, a.eval x.2)) (by simp [k1]) k2
    refine value (x := y) (w' := w') ?_ h4
    have : (ps.map fun (i, x) => (i, a.eval x)) = (ps.toList.map fun x => (x.1, a.eval x.2)).toArray := by
      apply Array.ext'; simp
    simp only [execOp, hop, this, Sem.run_bind, h3, Result.andThen_ok, Sem.run_pure]
  | makeSlice t n m =>
    rw [hop] at e; simp only [evOp] at e
    obtain ⟨nv, mv, h1, h2, h3⟩ : ∃ nv mv, g n = some nv ∧ g m = some mv ∧ evMake T t nv mv nb = some out := by
      split at e
      · rename_i nv mv h1 h2; exact ⟨nv, mv, h1, h2, e⟩
      · cases e
    obtain ⟨y, w', h4, h5⟩ := evMake_sound (P := P) hT S h3 hs hnb hf0 (hg n nv h1) (hg m mv h2)
    exact value (x := y) (w' := w') (by simp [execOp, hop, h4]) h5
  | binOp op t x y ty =>
    rw [hop] at e; simp only [evOp] at e
    have fin : ∀ {vx vy : Value}, a.eval x = vx → a.eval y = vy → (eqGuard op t x y vx vy).run P w = .ok () w → out.up = [] → (∃ z, (binOp op t vx vy).run P w = .ok z w ∧ VRel ρ ro w out.val z) → o.wp P a w K Q := by
      intro vx vy ex ey hgd hu hz
      obtain ⟨z, h1, h2⟩ := hz
      refine value (x := z) (w' := w) ?_ (by rw [hu]; exact Res.of_pure S h2)
      simp only [execOp, hop, ex, ey, Sem.run_bind, hgd, Result.andThen_ok, h1, Sem.run_pure]
    split at e
    · rename_i k p k' q h1 h2
      have ex := (hg x _ h1).int_inv
      have ey := (hg y _ h2).int_inv
      have main : (op = .shl ∨ op = .shr) → shiftOp op k p q = some out → o.wp P a w K Q := fun _ he => by
        obtain ⟨_, h3, h4⟩ := shiftOp_sound (P := P) (w := w) (ρ := ρ) (ro := ro) (k' := k') he hs t
        exact fin ex ey (run_eqGuard_int op t x y k k' p q) h3 h4
      have main2 : op ≠ .shl ∧ op ≠ .shr → (bif k == k' then intOp op k p q else none) = some out → o.wp P a w K Q := fun hsh he => by
        cases hk : (k == k') with
        | false => simp [hk] at he
        | true =>
          simp only [hk, cond_true] at he
          simp at hk
          subst hk
          obtain ⟨_, h3, h4⟩ := intOp_sound (P := P) (w := w) (ρ := ρ) (ro := ro) he hs t hsh
          exact fin ex ey (run_eqGuard_int op t x y k k p q) h3 h4
      cases op <;> simp only at e <;> first | exact main (.inl rfl) e | exact main (.inr rfl) e | exact main2 (by simp) e
    · rename_i p q h1 h2
      have ex := (hg x _ h1).str_inv
      have ey := (hg y _ h2).str_inv
      have gd : (eqGuard op t x y (.string p) (.string q)).run P w = .ok () w := by unfold eqGuard; cases op <;> rfl
      split at e
      · simp only [pureOut, Option.some.injEq] at e; subst e
        exact fin ex ey gd rfl ⟨.bool (p.toList == q.toList), rfl, .bool _⟩
      · simp only [pureOut, Option.some.injEq] at e; subst e
        exact fin ex ey gd rfl ⟨.bool (!(p.toList == q.toList)), rfl, .bool _⟩
      · cases e
    · rename_i p q h1 h2
      have ex := (hg x _ h1).bool_inv
      have ey := (hg y _ h2).bool_inv
      have eqr : P.underlying t = some .bool → (Op.equal t (.bool p) (.bool q)).run P w = .ok (p == q) w := fun hu => by
        have : ∀ d, (Op.equalIn (d + 1) t (.bool p) (.bool q)).run P w = .ok (p == q) w := fun d => by simp [Op.equalIn, run_underlying hu]
        exact this 9999
      split at e
      · rename_i ht
        obtain ⟨d, hd, _, hst⟩ := (hT t _ ht).agg
        simp only at hst; subst hst
        simp only [pureOut, Option.some.injEq] at e; subst e
        exact fin ex ey (run_eqGuard_bool _ t x y p q) rfl ⟨.bool (p == q), by simp only [binOp, Sem.run_bind, eqr hd, Result.andThen_ok, Sem.run_pure], .bool _⟩
      · rename_i ht
        obtain ⟨d, hd, _, hst⟩ := (hT t _ ht).agg
        simp only at hst; subst hst
        simp only [pureOut, Option.some.injEq] at e; subst e
        exact fin ex ey (run_eqGuard_bool _ t x y p q) rfl ⟨.bool (!(p == q)), by simp only [binOp, Sem.run_bind, eqr hd, Result.andThen_ok, Sem.run_pure], .bool _⟩
      · cases e
    · rename_i cs ds h1 h2
      obtain ⟨us, ex, hu⟩ := (hg x _ h1).agg_inv
      obtain ⟨vs, ey, hv⟩ := (hg y _ h2).agg_inv
      obtain ⟨e1, e2, e3, e4⟩ := evEq_sound (P := P) hT e hs hu hv x y
      exact fin ex ey e2 e3 e4
    · cases e
  | unOp op t x =>
    rw [hop] at e; simp only [evOp] at e
    split at e
    · rename_i b h1
      simp only [pureOut, Option.some.injEq] at e; subst e
      have ex := (hg x _ h1).bool_inv
      exact value (x := .bool !b) (w' := w) (by simp [execOp, hop, ex, Op.unary]) (Res.of_pure S (.bool _))
    · rename_i k p h1
      simp only [pureOut, Option.some.injEq] at e; subst e
      have ex := (hg x _ h1).int_inv
      exact value (x := .int k (k.wrap (0 - p))) (w' := w) (by simp [execOp, hop, ex, Op.unary, Op.intArith]) (Res.of_pure S (.int _ _))
    · cases e
  | convert src dst x =>
    rw [hop] at e; simp only [evOp] at e
    split at e
    · rename_i ts _ _ k _ _ p hsrc hdst h1
      simp only [pureOut, Option.some.injEq] at e; subst e
      obtain ⟨d1, hd1, _⟩ := (hT src _ hsrc).agg
      obtain ⟨d2, hd2, _, hst⟩ := (hT dst _ hdst).agg
      simp only at hst; subst hst
      have ex := (hg x _ h1).int_inv
      refine value (x := .int k (k.wrap p)) (w' := w) ?_ (Res.of_pure S (.int _ _))
      simp [execOp, hop, ex, convert, run_underlying hd1, run_underlying hd2, Conv.intToInt]
    · cases e
  | indexAddr t x i =>
    rw [hop] at e; simp only [evOp] at e
    split at e
    · rename_i el _ sz n full f ki j ht h1 h2
      split at e
      · rename_i te hte
        simp only [Option.some.injEq] at e; subst e
        obtain ⟨d, hd, _, hst⟩ := (hT t _ ht).agg
        simp only at hst; subst hst
        obtain ⟨ie, ze, hie, hse, _⟩ := (hT el te hte).info
        have h0 : 0 ≤ j := hs (0 ≤ j) (by simp)
        have hlt : j < (n : Int) := hs (j < (n : Int)) (by simp)
        have hsz : sz = te.cells := hs (sz = te.cells) (by simp)
        have ei := (hg i _ h2).int_inv
        have hx := hg x _ h1
        generalize hxe : a.eval x = xx at hx
        cases hx with
        | rs _ _ cap _ _ ad vals hn hm hfull ha hl hc =>
          obtain ⟨b, rfl, b2, b3, b4⟩ := ha (by omega)
          refine value (x := .pointer (some (b.add (j.toNat * sz)))) (w' := w) ?_ (Res.of_pure S ?_)
          · simp [execOp, hop, hxe, ei, Instr.indexAt, asIntOf, run_underlying hd, h0, hlt, sizeOf, typeInfo, hie, hse, hsz]
          · refine .rp _ _ (vals j.toNat) (by rw [add_block]; exact b2) ?_ (fun k u hk => ?_) (hc _ (by omega))
            · unfold Addr.add; split
              · exact b3
              · rfl
            · rw [add_add _ _ _ b3]; exact b4 _ (by omega) k u hk
      · cases e
    · rename_i el _ m ki j ht h1 h2
      split at e
      · rename_i te sz e' n f hte hk
        simp only [Option.some.injEq] at e; subst e
        obtain ⟨d, hd, _, hst⟩ := (hT t _ ht).agg
        simp only at hst; subst hst
        obtain ⟨ie, ze, hie, hse, _⟩ := (hT el te hte).info
        have h0 : 0 ≤ j := hs (0 ≤ j) (by simp)
        have hlt : j < (n : Int) := hs (j < (n : Int)) (by simp)
        have hsz : sz = te.cells := hs (sz = te.cells) (by simp)
        have ei := (hg i _ h2).int_inv
        have hx := hg x _ h1
        generalize hxe : a.eval x = xx at hx
        cases hx with
        | vs _ _ hj hsl =>
          obtain ⟨_, x', xs, c1, c2, c3, c4, c5⟩ := S.cont m 0 _ (name_pos S hj) (hrd (m, 0, .vec sz e' n f) (by simp))
          rw [hj] at c1
          injection c1 with c1
          subst c1
          rcases c3.2 with ⟨rfl, hz⟩ | ⟨gg, cap, cur, rfl, _⟩
          · omega
          · refine value (x := .pointer (some ⟨gg, j.toNat * sz + 0, none⟩)) (w' := w) ?_ (Res.of_pure S (.vp m sz 0 gg n cap j hj))
            simp [execOp, hop, hxe, ei, Instr.indexAt, asIntOf, run_underlying hd, h0, hlt, sizeOf, typeInfo, hie, hse, hsz, add_at]
      · cases e
    · rename_i n el _ _ m off ki j ht h1 h2
      split at e
      · rename_i te hte
        cases hq : (te.cells == 1) with
        | false => simp [hq] at e
        | true =>
          simp only [hq, cond_true, Option.some.injEq] at e; subst e
          simp at hq
          obtain ⟨d, hd, _, hst⟩ := (hT t _ ht).agg
          simp only at hst; subst hst
          obtain ⟨ie, ze, hie, hse, _⟩ := (hT el te hte).info
          have h0 : 0 ≤ j := hs (0 ≤ j) (by simp)
          have hlt : j < (n : Int) := hs (j < (n : Int)) (by simp)
          have ei := (hg i _ h2).int_inv
          have hx := hg x _ h1
          generalize hxe : a.eval x = xx at hx
          cases hx with
          | ptr _ _ b hb =>
            refine value (x := .pointer (some ⟨b, off + j.toNat, none⟩)) (w' := w) ?_ (Res.of_pure S (.pe m off b j hb))
            simp [execOp, hop, hxe, ei, Instr.indexAt, Instr.sureAddr, asIntOf, run_underlying hd, h0, hlt, sizeOf, typeInfo, hie, hse, hq, add_at]
      · cases e
    · cases e
  | index t x i =>
    rw [hop] at e; simp only [evOp] at e
    split at e
    · rename_i xv ki j h1 h2
      have ei := (hg i _ h2).int_inv
      obtain ⟨hu, hr2, y, h3, h4⟩ := evIndex_sound (P := P) (k := ki) hT e hs (hg x xv h1)
      refine value (x := y) (w' := w) (by simp [execOp, hop, ei, h3]) (by rw [hu]; exact Res.of_pure S h4)
    · cases e
  | extract x j =>
    rw [hop] at e; simp only [evOp] at e
    split at e
    · rename_i vs h1
      obtain ⟨v, h2, h3⟩ := Option.bind_eq_some_iff.1 e
      simp only [pureOut, Option.some.injEq] at h3; subst h3
      have hx := hg x _ h1
      generalize hxe : a.eval x = xx at hx
      cases hx with
      | tup _ us hl =>
        obtain ⟨u, h4, h5⟩ := hl.get h2
        refine value (x := u) (w' := w) ?_ (Res.of_pure S h5)
        simp [execOp, hop, hxe, Instr.extract, h4]
    · cases e
  | slice t x lo hi mx =>
    rw [hop] at e; simp only [evOp] at e
    split at e
    · rename_i xv lo' hi' mx' h1 h2 h3 h4
      have opt : ∀ {l : Option Operand} {l' : Option Int}, optInt (l.map g) = some l' → OptV l' (l.map a.eval) := by
        intro l l' hl
        cases l with
        | none => simp [optInt] at hl; subst hl; trivial
        | some y =>
          simp only [Option.map_some] at hl ⊢
          cases hy : g y with
          | none => rw [hy] at hl; simp [optInt] at hl
          | some v =>
            rw [hy] at hl
            cases v <;> simp [optInt] at hl
            subst hl
            rw [(hg y _ hy).int_inv]
            rfl
      obtain ⟨hu, y, h5, h6⟩ := evSlice_sound (P := P) hT e hs (hg x xv h1) (opt h2) (opt h3) (opt h4)
      refine value (x := y) (w' := w) (by simp [execOp, hop, h5]) (by rw [hu]; exact Res.of_pure S h6)
    · cases e
  | makeFunc fn first cap =>
    rw [hop] at e
    cases fn with
    | func f =>
      simp only [evOp] at e
      cases hfi : first.isEmpty with
      | false => simp [hfi] at e
      | true =>
        simp only [hfi, cond_true] at e
        obtain ⟨vs, h1, h2⟩ := Option.bind_eq_some_iff.1 e
        simp only [pureOut, Option.some.injEq] at h2; subst h2
        have hl := mapA_sound hg _ _ h1
        have hfe : first = #[] := by simpa using hfi
        subst hfe
        refine value (x := .func (.func f) #[] (cap.map a.eval)) (w' := w) ?_ ?_
        · simp [execOp, hop, Instr.makeFunc]
        · have := VRel.fn (ρ := ρ) (ro := ro) (w := w) f vs _ hl
          have e2 : (cap.toList.map a.eval).toArray = cap.map a.eval := by apply Array.ext'; simp
          rw [e2] at this
          exact Res.of_pure S this
    | _ => simp [evOp] at e
  | nilCheck x =>
    rw [hop] at e; simp only [evOp] at e
    split at e
    · rename_i n off h1
      simp only [pureOut, Option.some.injEq] at e; subst e
      have hx := hg x _ h1
      generalize hxe : a.eval x = xx at hx
      cases hx with
      | ptr _ _ b hb => exact value (x := .pointer (some ⟨b, off, none⟩)) (w' := w) (by simp [execOp, hop, hxe]) (Res.of_pure S (.ptr n off b hb))
    · rename_i cs h1
      simp only [pureOut, Option.some.injEq] at e; subst e
      have hx := hg x _ h1
      generalize hxe : a.eval x = xx at hx
      cases hx with
      | rp _ ad us hb hsp hc hcr => exact value (x := .pointer (some ad)) (w' := w) (by simp [execOp, hop, hxe]) (Res.of_pure S (.rp cs ad us hb hsp hc hcr))
    · rename_i n sz i off h1
      simp only [pureOut, Option.some.injEq] at e; subst e
      have hx := hg x _ h1
      generalize hxe : a.eval x = xx at hx
      cases hx with
      | vp _ _ _ b len cap _ hb => exact value (w' := w) (by simp [execOp, hop, hxe]) (Res.of_pure S (.vp n sz off b len cap i hb))
    · rename_i f cap h1
      simp only [pureOut, Option.some.injEq] at e; subst e
      have hx := hg x _ h1
      generalize hxe : a.eval x = xx at hx
      cases hx with
      | fn _ _ us hl => exact value (w' := w) (by simp [execOp, hop, hxe]) (Res.of_pure S (.fn f cap us hl))
    · cases e
  | call c =>
    rw [hop] at e; simp only [evOp] at e
    split at e
    · rename_i b hcal
      obtain ⟨vs, h1, h2⟩ := Option.bind_eq_some_iff.1 e
      have hl := mapA_sound hg _ _ h1
      obtain ⟨y, w', h3, h4⟩ := evBuiltin_sound (P := P) hT S h2 hrd hs hnb hf0 hl o.type (c.args.map fun | .const _ => true | _ => false)
      refine value (x := y) (w' := w') ?_ h4
      have e2 : (c.args.toList.map a.eval).toArray = c.args.map a.eval := by apply Array.ext'; simp
      rw [e2] at h3
      simp only [execOp, hop, resolve, hcal, Sem.run_bind, Sem.run_pure, Result.andThen_ok, invoke]
      rw [show c.argTypes.toList.toArray = c.argTypes by simp] at h3
      exact h3
    · rename_i fo hcal
      split at e
      · rename_i f cap vs h1 h2
        obtain ⟨s, h3, h4⟩ := Option.bind_eq_some_iff.1 e
        have hl := mapA_sound hg _ _ h2
        have hfo := hg fo _ h1
        generalize hfe : a.eval fo = fv at hfo
        cases hfo with
        | fn _ _ us hcap =>
          obtain ⟨hfn, _, hcall⟩ := hΓ f s h3
          have hall := hl.append hcap
          refine wp_call (P := P) (R := fun x w' => Res mine ρ ro w nb (hput h out.up) out.val x w') hop hcal hfe (by apply Array.ext'; simp) hfn (hcall mine ρ ro h w _ _ hr nb out S hall h4 hrd hs hnb hf) hK
      · cases e
    · cases e
  | _ => rw [hop] at e; simp only [evOp] at e; cases e
end
end Go.Eng
